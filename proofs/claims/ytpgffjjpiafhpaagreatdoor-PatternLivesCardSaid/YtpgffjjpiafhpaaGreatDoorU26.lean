/- Parts of a proof: Vp Fh Fi. -/
import Derived.Laws.AppendOwnNone
import Derived.Test.YtpgffjjpiafhpaaGreatDoorU19
import Derived.Test.YtpgffjjpiafhpaaGreatDoorU15
import Derived.Test.YtpgffjjpiafhpaaGreatDoorU25
import Derived.Test.YtpgffjjpiafhpaaGreatDoorU24
import Derived.Test.YtpgffjjpiafhpaaGreatDoorU08
import Derived.Test.YtpgffjjpiafhpaaGreatDoorU03
import Derived.Test.YtpgffjjpiafhpaaGreatDoorU05
import Derived.Test.YtpgffjjpiafhpaaGreatDoorU04
import Derived.Test.YtpgffjjpiafhpaaGreatDoorU09
set_option linter.unusedVariables false
set_option linter.unusedSimpArgs false
set_option maxRecDepth 100000
set_option maxHeartbeats 8000000
namespace Go.Proofs.YtpgffjjpiafhpaaGreatDoor
open Go.RowKit Tryz
section
open Classical
theorem put18 (a1 a2 a3 a4 a5 a6 a7 a8 a9 b1 b2 b3 b4 b5 b6 b7 b8 b9 c1 c2 c3 c4 c5 c6 c7 c8 c9 d1 d2 d3 d4 d5 d6 d7 d8 d9 o e:Value):ybv (ybv #[a1,a2,a3,a4,a5,a6,a7,a8,a9,b1,b2,b3,b4,b5,b6,b7,b8,b9,o,e] 0 [c1,c2,c3,c4,c5,c6,c7,c8,c9]) 9 [d1,d2,d3,d4,d5,d6,d7,d8,d9] = #[c1,c2,c3,c4,c5,c6,c7,c8,c9,d1,d2,d3,d4,d5,d6,d7,d8,d9,o,e]:=by kernel_rfl
theorem put_iv (s t:Iv K) (hf:t.f.beh=s.f.beh) (hl:t.l.beh=s.l.beh):ybv (ybv (iC s) 0 (kC t.f.pt).toList) 9 (kC t.l.pt).toList=iC t:=by
 have e:iC t = #[.bool (sgB t.f.pt.1.p.num),.string (mgS t.f.pt.1.p.num),.bool false,.string (dnS t.f.pt.1.p.den),.bool (sgB t.f.pt.1.r.num),.string (mgS t.f.pt.1.r.num),.bool false,.string (dnS t.f.pt.1.r.den),.bool t.f.pt.1.neg,.bool (sgB t.l.pt.1.p.num),.string (mgS t.l.pt.1.p.num),.bool false,.string (dnS t.l.pt.1.p.den),.bool (sgB t.l.pt.1.r.num),.string (mgS t.l.pt.1.r.num),.bool false,.string (dnS t.l.pt.1.r.den),.bool t.l.pt.1.neg,.bool s.f.beh,.bool (!s.l.beh)]:=by rw [← hf,← hl];rfl
 rw [e];exact put18 _ _ _ _ _ _ _ _ _ _ _ _ _ _ _ _ _ _ _ _ _ _ _ _ _ _ _ _ _ _ _ _ _ _ _ _ _ _
end
section
open Classical
theorem put9 (a1 a2 a3 a4 a5 a6 a7 a8 a9 b1 b2 b3 b4 b5 b6 b7 b8 b9 d1 d2 d3 d4 d5 d6 d7 d8 d9 c1 c2:Value):ybv #[a1,a2,a3,a4,a5,a6,a7,a8,a9,b1,b2,b3,b4,b5,b6,b7,b8,b9,c1,c2] 9 [d1,d2,d3,d4,d5,d6,d7,d8,d9] = #[a1,a2,a3,a4,a5,a6,a7,a8,a9,d1,d2,d3,d4,d5,d6,d7,d8,d9,c1,c2]:=by kernel_rfl
theorem putTo (s t:Iv K) (hf:t.f=s.f) (hl:t.l.beh=s.l.beh):ybv (iC s) 9 (kC t.l.pt).toList=iC t:=by
 have e:iC t = #[.bool (sgB s.f.pt.1.p.num),.string (mgS s.f.pt.1.p.num),.bool false,.string (dnS s.f.pt.1.p.den),.bool (sgB s.f.pt.1.r.num),.string (mgS s.f.pt.1.r.num),.bool false,.string (dnS s.f.pt.1.r.den),.bool s.f.pt.1.neg,.bool (sgB t.l.pt.1.p.num),.string (mgS t.l.pt.1.p.num),.bool false,.string (dnS t.l.pt.1.p.den),.bool (sgB t.l.pt.1.r.num),.string (mgS t.l.pt.1.r.num),.bool false,.string (dnS t.l.pt.1.r.den),.bool t.l.pt.1.neg,.bool s.f.beh,.bool (!s.l.beh)]:=by rw [← hf,← hl];rfl
 rw [e];exact put9 _ _ _ _ _ _ _ _ _ _ _ _ _ _ _ _ _ _ _ _ _ _ _ _ _ _ _ _ _
theorem sweep1_c (s:Iv K) (a b:Rat) (k0:Nat) (hk0:k0≤80000) (hs:SmI k0 s) (ha:FitQ 24 a) (hb:FitQ 24 b) (w:World) (xa xb:Nat) (h1:w.heap[xa]? = some (.cells (rC a) 28)) (h2:w.heap[xb]? = some (.cells (rC b) 28)) :
  Calls prog 117 #[iv s,.pointer (some ⟨xa,0,none⟩),.pointer (some ⟨xb,0,none⟩)] w fun e w'=>e = .returned (.tuple #[iv (swpI a b s),.bool true])∧Keep [] w w':=by
 have H1:=jX (ycC hs.1 (by omega) ha);have H2:=jX (ycC hs.2 (by omega) hb);have F1:=jX (ybg (mvK a s.f.pt));have F2:=jX (ybg (mvK b s.l.pt));have HPut:Hid (ybv (ybv (iC s) 0 (kC (mvK a s.f.pt)).toList) 9 (kC (mvK b s.l.pt)).toList=iC (swpI a b s)):=put_iv s (swpI a b s) rfl rfl;have HX1:=jX h1;have HX2:=jX h2;rw [show iv s = .agg (iC s) from rfl]
 clear hs ha hb h1 h2;obtain⟨t,ht⟩:∃ t,swpI a b s=t:=⟨_,rfl⟩;rw [ht] at HPut ⊢;clear ht;generalize kC (mvK a s.f.pt)=M1 at *;generalize kC (mvK b s.l.pt)=M2 at *;go_enter func117,ntmps117
 go_upto_region 1 with (fail)
 obtain⟨W,ga,gb,hW,ega,egb,Bga,Bgb,hga,hgb,hgW,HkW⟩:=al2h w (.cells (iC s) 32) (.cells #[.bool false,.string ⟨#[]⟩,.bool false,.string ⟨#[]⟩,.bool false,.string ⟨#[]⟩,.bool false,.string ⟨#[]⟩,.bool false,.bool false,.string ⟨#[]⟩,.bool false,.string ⟨#[]⟩,.bool false,.string ⟨#[]⟩,.bool false,.string ⟨#[]⟩,.bool false,.bool false,.bool false] 32);rw [← hW];try rw [egb]
 try rw [ega]
 clear hW ega egb;have HXf:=jX ((yao Bga.out).ldf (yaa Bga.out));have HXt:=jX ((yao Bga.out).ldt (yaa Bga.out));have HXa:=jX (kw_q (HkW.out.heap HX1.out (by simp)));have HXb:=jX (kw_q (HkW.out.heap HX2.out (by simp)));rw [show kv s.f.pt = .agg (kC s.f.pt) from rfl] at HXf
 rw [show kv s.l.pt = .agg (kC s.l.pt) from rfl] at HXt
 rw [yam] at HXa HXb;have HCs:Hid ((iC s).size=20):=rfl;generalize iC s=C0 at *;generalize kC s.f.pt=F at *;generalize kC s.l.pt=L at *;have Q1:Hid (∀ m:KW W,Calls prog 54 #[.agg F,.agg (rC a)] (Wk W m) fun e w'=>e = .returned (.agg M1)∧∃ m,w'=Wk W m):=fun m=>qk m (H1.out _);have Q2:Hid (∀ m:KW W,Calls prog 54 #[.agg L,.agg (rC b)] (Wk W m) fun e w'=>e = .returned (.agg M2)∧∃ m,w'=Wk W m):=fun m=>qk m (H2.out _);clear H1 H2;refine yah 9 (by kernel_rfl) (by kernel_rfl) ?_;simp only [List.take_succ_cons,List.take_zero,List.drop_succ_cons,List.drop_zero]
 repeat (first
  | go_big_quiet_skip
  | (go_big_quiet_want;first
   | (refine yaj _ _ _ (.agg F) rfl rfl (by rintro _ ⟨m,rfl⟩;exact HXf.out m) ?_;go_simp;go_big_quiet_on)|(refine yaj _ _ _ (.agg L) rfl rfl (by rintro _ ⟨m,rfl⟩;exact HXt.out m) ?_;go_simp;go_big_quiet_on)|(refine yaj _ _ _ (.agg (rC a)) rfl rfl (by rintro _ ⟨m,rfl⟩;exact HXa.out m) ?_;go_simp;go_big_quiet_on)|(refine yaj _ _ _ (.agg (rC b)) rfl rfl (by rintro _ ⟨m,rfl⟩;exact HXb.out m) ?_;go_simp;go_big_quiet_on)
   | (go_big_quiet_op;first|go_big_quiet_on|go_big_quiet_call (first
    | (go_at_call 54;with_reducible exact (Q1).out _)|(go_at_call 54;with_reducible exact (Q2).out _)))))
 refine wpQuiet_nil ?_;rintro w3 ⟨⟨_,hk_w3⟩,rfl⟩;have Bg3:=jX (hk_w3.heap Bga.out (by simp));have Bgb3:=jX (hk_w3.heap Bgb.out (by simp));have HW3:=jX (HkW.out.tz hk_w3);clear hk_w3 HXf HXt HXa HXb Q1 Q2 Bga Bgb;refine yaN (by rfl) _ _ _ rfl ga 0 M1 rfl rfl (ybb Bg3.out _ _ (by rw [HCs.out,F1.out.2.1];decide)) (by rw [F1.out.2.1];exact k_size) F1.out.2.2 (fun K hK=>?_);obtain⟨b4,k4⟩:=yaw M1.toList 0 C0 w3 Bg3.out;generalize World.setCells w3 ga 0 M1.toList=w4 at *;go_simp;go_step
 refine wV ?_;go_simp;refine yaN (by rfl) _ _ _ rfl ga 9 M2 rfl rfl (ybb b4 _ _ (by rw [putAt_size,HCs.out,F2.out.2.1];decide)) (by rw [F2.out.2.1];exact k_size) F2.out.2.2 (fun K hK=>?_);obtain⟨b5,k5⟩:=yaw M2.toList 9 _ w4 b4;generalize World.setCells w4 ga 9 M2.toList=w5 at *;go_simp;go_step
 rw [HPut.out] at b5;have HW5:=jX (show Keep [] w w5 from (HW3.out.trans k4 (by simp;omega)).trans k5 (by simp;omega))
 have Bg5:=jX (k5.heap (k4.heap Bgb3.out (by simp;omega)) (by simp;omega));have HLt:=jX (yaJ w5 ga 0 t (yao b5));clear b4 b5 k4 k5 HW3 Bg3 Bgb3;go_upto_region 2 with (fail)
 refine wp_region_lit ?_;refine wX (v:=iv t) ⟨ga,0,none⟩ (HLt.out) ?_;go_simp;refine wR gb (iC t) Bg5.out (by exact ybL t) (by rfl) (ybP t) (fun w6 b6 k6=>?_);go_simp;refine fO ?_;have HW6:=jX (show Keep [] w w6 from HW5.out.trans k6 (by simp;omega))
 have HLr:=yaJ w6 gb 0 t (yao b6);clear k6 b6 HW5;go_wp2_with fail;refine bodyPost_ret (v:=.tuple #[iv t,.bool true]) ?_ rfl ⟨rfl,HW6.out⟩;rw [results_cell_tmp rfl];show ((loadVar 32 ⟨gb,0,none⟩).run prog w6).andThen _=_
 rw [HLr];rfl
theorem erode1_c (s:Iv K) (q:Rat) (k0:Nat) (hk0:k0≤80000) (hs:SmI k0 s) (hq:FitQ 24 q) (w:World) (xa:Nat) (h1:w.heap[xa]? = some (.cells (rC q) 28)) :
  Calls prog 113 #[iv s,.pointer (some ⟨xa,0,none⟩)] w fun e w'=>e = .returned (.tuple #[iv (eroI q s),.bool (okI (eroI q s))])∧Below w.heap.size w w':=by
 have H1:=jX (ycC hs.2 (by omega) hq.neg);have H0:=jX (QNeg_c q);have H2:=jX (pci_p (RawI.of (eroI q s)) (yiP _));have F2:=jX (ybg (mvK (-q) s.l.pt));have HPut:Hid (ybv (iC s) 9 (kC (mvK (-q) s.l.pt)).toList=iC (eroI q s)):=putTo s (eroI q s) rfl rfl
 have hok:(eI (RawI.of (eroI q s)) == 0)=okI (eroI q s):=by
  rw [eI_of];unfold okI;split
  ·next h=>rw [decide_eq_true h];rfl
  next h=>rw [decide_eq_false h];rfl
 rw [RawI.of_v] at H2;rw [yam,yam] at H0;have HX1:=jX h1;rw [show iv s = .agg (iC s) from rfl]
 clear hs hq h1;obtain⟨t,ht⟩:∃ t,eroI q s=t:=⟨_,rfl⟩;rw [ht] at HPut H2 hok ⊢;clear ht;generalize kC (mvK (-q) s.l.pt)=M2 at *;generalize rC (-q)=NQ at *;generalize eI (RawI.of t)=n at *;generalize okI t=r at *;go_enter func113,ntmps113
 go_upto_region 1 with (fail)
 obtain⟨W,ga,gb,hW,ega,egb,Bga,Bgb,hga,hgb,hgW,HkW⟩:=al2h w (.cells (iC s) 32) (.cells #[.bool false,.string ⟨#[]⟩,.bool false,.string ⟨#[]⟩,.bool false,.string ⟨#[]⟩,.bool false,.string ⟨#[]⟩,.bool false,.bool false,.string ⟨#[]⟩,.bool false,.string ⟨#[]⟩,.bool false,.string ⟨#[]⟩,.bool false,.string ⟨#[]⟩,.bool false,.bool false,.bool false] 32);rw [← hW];try rw [egb]
 try rw [ega]
 clear hW ega egb;have HXt:=jX ((yao Bga.out).ldt (yaa Bga.out));have HXa:=jX (kw_q (HkW.out.heap HX1.out (by simp)));rw [show kv s.l.pt = .agg (kC s.l.pt) from rfl] at HXt
 rw [yam] at HXa;have HCs:Hid ((iC s).size=20):=rfl;generalize iC s=C0 at *;generalize kC s.l.pt=L at *;generalize rC q=Q at *;have Q0:Hid (∀ m:KW W,Calls prog 60 #[.agg Q] (Wk W m) fun e w'=>e = .returned (.agg NQ)∧∃ m,w'=Wk W m):=fun m=>qk m (H0.out _);have Q1:Hid (∀ m:KW W,Calls prog 54 #[.agg L,.agg NQ] (Wk W m) fun e w'=>e = .returned (.agg M2)∧∃ m,w'=Wk W m):=fun m=>qk m (H1.out _);clear H1 H0;refine yah 6 (by kernel_rfl) (by kernel_rfl) ?_;simp only [List.take_succ_cons,List.take_zero,List.drop_succ_cons,List.drop_zero]
 repeat (first
  | go_big_quiet_skip
  | (go_big_quiet_want;first
   | (refine yaj _ _ _ (.agg L) rfl rfl (by rintro _ ⟨m,rfl⟩;exact HXt.out m) ?_;go_simp;go_big_quiet_on)|(refine yaj _ _ _ (.agg Q) rfl rfl (by rintro _ ⟨m,rfl⟩;exact HXa.out m) ?_;go_simp;go_big_quiet_on)
   | (go_big_quiet_op;first|go_big_quiet_on|go_big_quiet_call (first
    | (go_at_call 60;with_reducible exact (Q0).out _)|(go_at_call 54;with_reducible exact (Q1).out _)))))
 refine wpQuiet_nil ?_;rintro w3 ⟨⟨_,hk_w3⟩,rfl⟩;have Bg3:=jX (hk_w3.heap Bga.out (by simp));have Bgb3:=jX (hk_w3.heap Bgb.out (by simp));have HW3:=jX (HkW.out.tz hk_w3);clear hk_w3 HXt HXa Q0 Q1 Bga Bgb;refine yaN (by rfl) _ _ _ rfl ga 9 M2 rfl rfl (ybb Bg3.out _ _ (by rw [HCs.out,F2.out.2.1];decide)) (by rw [F2.out.2.1];exact k_size) F2.out.2.2 (fun K hK=>?_);obtain⟨b5,k5⟩:=yaw M2.toList 9 _ w3 Bg3.out;generalize World.setCells w3 ga 9 M2.toList=w5 at *;go_simp;go_step
 rw [HPut.out] at b5;have HB5:=jX (Keep.bz (show Keep [] w w5 from HW3.out.trans k5 (by simp;omega)))
 have Ba5:=jX b5;have Bb5:=jX (k5.heap Bgb3.out (by simp;omega));clear b5 k5 HW3 Bg3 Bgb3;go_upto_region 2 with (fail)
 refine yae (S:=fun u=>Below gb w5 u) 5 (by kernel_rfl) (by kernel_rfl) (fun _ _ d _ _ h=>by cases d<;>exact h) ?_;have hS0:Below gb w5 (World.drew w5):=Below.mono (Keep.drew [] w5).bz (Nat.le_of_lt (yaa Bb5.out));have Bu:=jX ((Keep.drew [] w5).heap Bb5.out (by simp));generalize World.drew w5=u at *;refine jG (v:=iv t) 0 hS0 (fun w hw=>yan _ _ ⟨ga,0,none⟩ _ rfl rfl (yaJ _ ga 0 t (yao ((hw.block ga (by omega)).trans Ba5.out)))) (fun K hK=>?_);go_simp;go_step
 refine jG (v:=iv t) 1 hS0 (fun w hw=>yan _ _ ⟨ga,0,none⟩ _ rfl rfl (yaJ _ ga 0 t (yao ((hw.block ga (by omega)).trans Ba5.out)))) (fun K hK=>?_);go_simp;go_step
 refine jP 2 (fun K hK=>?_);refine yaf 17 #[iv t] (by go_simp) ?_;refine (H2.out _).mono ?_;rintro e u2 ⟨rfl,hb⟩;have hS0:=hS0.trans (Below.mono hb (Nat.le_of_lt (yaa Bu.out)));have Bu2:=jX ((hb.block gb (yaa Bu.out)).trans Bu.out);clear hb Bu;refine ⟨_,rfl,?_⟩;go_simp;refine hK _ _ hS0 ?_;clear hK K;refine tV 3 hS0 ?_;go_simp;refine jO 4 (fun K hK=>?_);refine wp_store_row _ _ _ rfl gb (iC t) rfl rfl _ _ Bu2.out (by exact ybL t) (by rfl) (ybP t) ?_;obtain⟨w6,e6,b6,k6⟩:=yaL (cs:=iC t) Bu2.out;rw [e6];go_simp;refine hK _ _ (hS0.trans (k6.below (by simp) (Nat.le_of_lt (yaa Bu2.out)))) ?_;clear hK K e6;refine ⟨by kernel_rfl,?_⟩;simp only [List.drop_succ_cons,List.drop_zero];have HB6:=jX (HB5.out.trans (Below.mono (hS0.trans (k6.below (by simp) (Nat.le_of_lt (yaa Bu2.out)))) (by omega:w.heap.size≤gb)));clear hS0;have HLr:=yaJ w6 gb 0 t (yao b6);clear k6 b6;go_wp2_with fail;refine bodyPost_ret (v:=.tuple #[iv t,.bool r]) ?_ rfl ⟨rfl,HB6.out⟩;rw [results_cell_tmp rfl];show ((loadVar 32 ⟨gb,0,none⟩).run prog w6).andThen _=_
 rw [HLr];rfl
end
section
open Classical
abbrev OBI (w0 w:World) (v:Value) (l:List (Iv K)):Prop:=OB (fun i:Iv K=>icells i) 32 20 w0 w v l
theorem ygR (mv:Iv K→Iv K) (ok:Iv K→Bool) (l:List (Iv K)) (k:Nat) (h:k<l.length):((l.take (k+1)).map mv).filter ok=((l.take k).map mv).filter ok++if ok (mv l[k]) then [mv l[k]] else []:=by
 rw [List.take_succ_eq_append_getElem h,List.map_append,List.filter_append];congr 1
 by_cases hp:ok (mv l[k])<;>simp [hp]
theorem yeB (mv:Iv K→Iv K) (ok:Iv K→Bool) (l:List (Iv K)):((l.map mv).filter ok).length≤l.length:=Nat.le_trans (List.length_filter_le _ _) (by rw [List.length_map];omega)
theorem OBI.app {w0 w:World} {v:Value} {l:List (Iv K)} (t:Iv K) (h:OBI w0 w v l) (h9:l.length≤1000000) :
  ∃ u,w.alloc (.cells (iC t) 32)=u∧∃ v4 u4,(Builtin.append_ #[22,22] 22 #[v,.slice (some ⟨w.heap.size,0,none⟩) 1 1]).run prog u = .ok v4 u4∧OBI w0 u4 v4 (l++[t]):=by
 obtain⟨ub,gx,e3,e4,hz1,hkx,hx⟩:=IvR.single t w;obtain⟨b,hbs,hoe,hback⟩:=(h.later hkx.bz).oe;obtain⟨v4,u4,hr4,ho4,hn4,_⟩:=IvR.app (ty:=22) hoe (.inr (by simp)) hx (by simp;omega);rw [e4];exact ⟨ub,e3,v4,u4,hr4,hback _ _ _ ho4⟩
theorem widenE_c (l:List (Iv K)) (mv:Iv K→Iv K) (ok:Iv K→Bool) (xa:Nat) (w:World)
  (hC:∀ s∈l,∀ u,Below w.heap.size w u→Calls prog 113 #[iv s,.pointer (some ⟨xa,0,none⟩)] u fun e w'=>e = .returned (.tuple #[iv (mv s),.bool (ok (mv s))])∧Below u.heap.size u w')
  (hv:∀ i∈(l.map mv).filter ok,i.f<i.l) (sv:Value) (hr:IvR w sv l) (h9:l.length≤10000) :
  Calls prog 112 #[sv,.func (.func 113) #[] #[.pointer (some ⟨xa,0,none⟩)]] w fun e w'=>∃ v,e = .returned v∧IvR w' v (normK ((l.map mv).filter ok))∧Below w.heap.size w w':=by
 have HR:=jX hr;have HC:=jX hC;have HN:=jX (fun u sv (h:IvR u sv ((l.map mv).filter ok))=>ygP _ hv u sv h (Nat.le_trans (yeB mv ok l) h9));obtain⟨ao,ac,rfl,_⟩:=hr.form;clear hr hC hv;go_enter func112,ntmps112
 go_wp2_with fail;go_loopw [5,12] (fun ov c wr=>∃ k:Nat,k≤l.length∧c = .int .i64 (k:Int)∧OBI w wr ov (((l.take k).map mv).filter ok)) (fun _ c _=>l.length-(intOf c).toNat)
 case atStart=>exact ⟨0,Nat.zero_le _,rfl,OB.nil w⟩
 case round =>
  obtain⟨k,hk,rfl,hov⟩:=hrel;obtain⟨out,hout⟩:∃ out,((l.take k).map mv).filter ok=out:=⟨_,rfl⟩;rw [hout] at hov;have Hlen:=jX (show out.length≤k by rw [← hout];exact Nat.le_trans (yeB mv ok _) (by rw [List.length_take];omega))
  have Hout:=jX hout;have HO:=jX hov;obtain⟨oo,oc,rfl⟩:=hov.form;clear hov hout;by_cases hlt:k<l.length
  ·obtain⟨g,o,rfl,hg,hat⟩:=IvR.elem (HR.out.laterB HO.out.keep) k hlt
   have Hstep:=jX (ygR mv ok l k hlt);have H1:=jX (HC.out l[k] (List.getElem_mem hlt));clear HC;generalize l[k]=s at *;obtain⟨t,ht⟩:∃ t,mv s=t:=⟨_,rfl⟩;obtain⟨r,hr⟩:∃ r,ok t=r:=⟨_,rfl⟩;rw [ht,hr] at H1 Hstep;clear ht hr;obtain⟨p,hp⟩:∃ p,o+k*20=p:=⟨_,rfl⟩;rw [hp] at hat;have HL:=jX (yaJ wr g p s hat);clear hat;have hkc:(k:Int)<(l.length:Int):=by omega
   go_upto_region 4 with (fail)
   refine wp_region_lit ?_;refine wV ?_;go_simp;refine wX (v:=iv s) ⟨g,p,none⟩ (HL.out) ?_;go_simp;refine wA (ygi _ _ _ rfl) (fun w1 gt e2 bgt hgt _ hk1=>?_);go_simp;refine wR gt (iC s) bgt (by exact ybL s) (by rfl) (ybP s) (fun w2 b4 k4=>?_);go_simp;clear HL;refine fO ?_;have HO2:=jX (HO.out.later (show Keep [] wr w2 from hk1.trans k4 (by simp;omega)).bz)
   have HL2:=jX (yaJ w2 gt 0 s (yao b4));clear b4 k4 hk1 bgt;go_upto_region 5 with (fail)
   refine wp_region_lit ?_;refine wV ?_;go_simp;refine wX (v:=iv s) ⟨gt,0,none⟩ (HL2.out) ?_;go_simp;refine wpList_plain (by rfl) (fun K hK=>?_);refine yaf 113 #[iv s,.pointer (some ⟨xa,0,none⟩)] (by go_simp) ?_;refine (H1.out w2 HO2.out.keep).mono ?_;rintro e w3 ⟨rfl,hb3⟩;refine ⟨_,rfl,?_⟩;go_simp;go_step
   have HO3:=jX (HO2.out.later hb3);clear hb3 HL2 H1 HO2;refine wV ?_;go_simp;refine wV ?_;go_simp;refine wV ?_;go_simp;refine wA (ygi _ _ _ rfl) (fun w4 gu e2 bgu hgu _ hk4=>?_);go_simp;refine wR gu (iC t) bgu (by exact ybL t) (by rfl) (ybP t) (fun w5 b5 k5=>?_);go_simp;refine fO ?_;have HO5:=jX (HO3.out.later (show Keep [] w3 w5 from hk4.trans k5 (by simp;omega)).bz)
   have HLt:=jX (yaJ w5 gu 0 t (yao b5));clear b5 k5 hk4 bgu HO3;cases r with
   | false =>
    have Hst:Hid (((l.take (k+1)).map mv).filter ok=out):=by
     have:=Hstep.out;rw [if_neg (by simp),List.append_nil] at this;rw [this,Hout.out];exact jX rfl
    clear Hstep;go_wp2_with fail;go_roundw
    case rel=>exact ⟨k+1,by omega,congrArg (Value.int .i64) (by omega),by rw [Hst.out];exact HO5.out⟩
    case measure=>simp [intOf];omega
   | true =>
    have Hst:Hid (((l.take (k+1)).map mv).filter ok=out++[t]):=by
     have:=Hstep.out;rw [if_pos rfl] at this;rw [this,Hout.out];exact jX rfl
    clear Hstep;go_upto_region 7 with (fail)
    refine wp_region_lit ?_;refine wV ?_;go_simp;refine wX (v:=iv t) ⟨gu,0,none⟩ (HLt.out) ?_;go_simp;refine fO ?_;obtain⟨ub,e6,v4,u4,hr4,ho4⟩:=OBI.app t HO5.out (by have:=Hlen.out;omega);refine yar (v:=.slice (some ⟨w5.heap.size,0,none⟩) 1 1) (by rfl) (yaV 22 1 #[(0,.tmp 24)] #[(0,iv t)] _ rfl (by simp only [List.map_toArray,List.map_cons,List.map_nil];rfl) (ybl t _)) (fun K hK=>?_);rw [e6];clear e6;go_simp;go_step
    refine yar (by rfl) (ybj (.tmp 23) (.tmp 25) 22 _ _ _ rfl rfl rfl hr4) (fun K hK=>?_);go_simp;go_step
    clear hr4;have HN4:=jX ho4;obtain⟨no,nc,rfl⟩:=ho4.form;clear ho4;go_wp2_with fail;go_roundw
    case rel=>exact ⟨k+1,by omega,congrArg (Value.int .i64) (by omega),by rw [Hst.out];exact HN4.out⟩
    case measure=>simp [intOf];omega
  obtain rfl:k=l.length:=by omega
  rw [List.take_length] at Hout
  have HX:Hid (IvR wr (.slice oo out.length oc) ((l.map mv).filter ok)):=by
   have:=HO.out.read;rw [← Hout.out] at this ⊢;exact this
  have HB:=jX HO.out.keep;have HN1:=jX (HN.out wr _ HX.out);clear HO HC HN HX;go_wp2_with fail;refine HN1.out.mono ?_;rintro e w6 ⟨v,rfl,hv,hk6⟩;dsimp only;have HV:=jX hv;have HB6:=jX (HB.out.trans (Below.mono hk6.bz HB.out.size));obtain⟨vo,vc,rfl,_⟩:=hv.form;clear hv hk6 HN1;go_wp2_with fail;go_ret
  exact ⟨_,rfl,HV.out,HB6.out⟩
theorem widenS_c (l:List (Iv K)) (mv:Iv K→Iv K) (ok:Iv K→Bool) (xa xb:Nat) (w:World)
  (hC:∀ s∈l,∀ u,Below w.heap.size w u→Calls prog 117 #[iv s,.pointer (some ⟨xa,0,none⟩),.pointer (some ⟨xb,0,none⟩)] u fun e w'=>e = .returned (.tuple #[iv (mv s),.bool (ok (mv s))])∧Below u.heap.size u w')
  (hv:∀ i∈(l.map mv).filter ok,i.f<i.l) (sv:Value) (hr:IvR w sv l) (h9:l.length≤10000) :
  Calls prog 112 #[sv,.func (.func 117) #[] #[.pointer (some ⟨xa,0,none⟩),.pointer (some ⟨xb,0,none⟩)]] w fun e w'=>∃ v,e = .returned v∧IvR w' v (normK ((l.map mv).filter ok))∧Below w.heap.size w w':=by
 have HR:=jX hr;have HC:=jX hC;have HN:=jX (fun u sv (h:IvR u sv ((l.map mv).filter ok))=>ygP _ hv u sv h (Nat.le_trans (yeB mv ok l) h9));obtain⟨ao,ac,rfl,_⟩:=hr.form;clear hr hC hv;go_enter func112,ntmps112
 go_wp2_with fail;go_loopw [5,12] (fun ov c wr=>∃ k:Nat,k≤l.length∧c = .int .i64 (k:Int)∧OBI w wr ov (((l.take k).map mv).filter ok)) (fun _ c _=>l.length-(intOf c).toNat)
 case atStart=>exact ⟨0,Nat.zero_le _,rfl,OB.nil w⟩
 case round =>
  obtain⟨k,hk,rfl,hov⟩:=hrel;obtain⟨out,hout⟩:∃ out,((l.take k).map mv).filter ok=out:=⟨_,rfl⟩;rw [hout] at hov;have Hlen:=jX (show out.length≤k by rw [← hout];exact Nat.le_trans (yeB mv ok _) (by rw [List.length_take];omega))
  have Hout:=jX hout;have HO:=jX hov;obtain⟨oo,oc,rfl⟩:=hov.form;clear hov hout;by_cases hlt:k<l.length
  ·obtain⟨g,o,rfl,hg,hat⟩:=IvR.elem (HR.out.laterB HO.out.keep) k hlt
   have Hstep:=jX (ygR mv ok l k hlt);have H1:=jX (HC.out l[k] (List.getElem_mem hlt));clear HC;generalize l[k]=s at *;obtain⟨t,ht⟩:∃ t,mv s=t:=⟨_,rfl⟩;obtain⟨r,hr⟩:∃ r,ok t=r:=⟨_,rfl⟩;rw [ht,hr] at H1 Hstep;clear ht hr;obtain⟨p,hp⟩:∃ p,o+k*20=p:=⟨_,rfl⟩;rw [hp] at hat;have HL:=jX (yaJ wr g p s hat);clear hat;have hkc:(k:Int)<(l.length:Int):=by omega
   go_upto_region 4 with (fail)
   refine wp_region_lit ?_;refine wV ?_;go_simp;refine wX (v:=iv s) ⟨g,p,none⟩ (HL.out) ?_;go_simp;refine wA (ygi _ _ _ rfl) (fun w1 gt e2 bgt hgt _ hk1=>?_);go_simp;refine wR gt (iC s) bgt (by exact ybL s) (by rfl) (ybP s) (fun w2 b4 k4=>?_);go_simp;clear HL;refine fO ?_;have HO2:=jX (HO.out.later (show Keep [] wr w2 from hk1.trans k4 (by simp;omega)).bz)
   have HL2:=jX (yaJ w2 gt 0 s (yao b4));clear b4 k4 hk1 bgt;go_upto_region 5 with (fail)
   refine wp_region_lit ?_;refine wV ?_;go_simp;refine wX (v:=iv s) ⟨gt,0,none⟩ (HL2.out) ?_;go_simp;refine wpList_plain (by rfl) (fun K hK=>?_);refine yaf 117 #[iv s,.pointer (some ⟨xa,0,none⟩),.pointer (some ⟨xb,0,none⟩)] (by go_simp) ?_;refine (H1.out w2 HO2.out.keep).mono ?_;rintro e w3 ⟨rfl,hb3⟩;refine ⟨_,rfl,?_⟩;go_simp;go_step
   have HO3:=jX (HO2.out.later hb3);clear hb3 HL2 H1 HO2;refine wV ?_;go_simp;refine wV ?_;go_simp;refine wV ?_;go_simp;refine wA (ygi _ _ _ rfl) (fun w4 gu e2 bgu hgu _ hk4=>?_);go_simp;refine wR gu (iC t) bgu (by exact ybL t) (by rfl) (ybP t) (fun w5 b5 k5=>?_);go_simp;refine fO ?_;have HO5:=jX (HO3.out.later (show Keep [] w3 w5 from hk4.trans k5 (by simp;omega)).bz)
   have HLt:=jX (yaJ w5 gu 0 t (yao b5));clear b5 k5 hk4 bgu HO3;cases r with
   | false =>
    have Hst:Hid (((l.take (k+1)).map mv).filter ok=out):=by
     have:=Hstep.out;rw [if_neg (by simp),List.append_nil] at this;rw [this,Hout.out];exact jX rfl
    clear Hstep;go_wp2_with fail;go_roundw
    case rel=>exact ⟨k+1,by omega,congrArg (Value.int .i64) (by omega),by rw [Hst.out];exact HO5.out⟩
    case measure=>simp [intOf];omega
   | true =>
    have Hst:Hid (((l.take (k+1)).map mv).filter ok=out++[t]):=by
     have:=Hstep.out;rw [if_pos rfl] at this;rw [this,Hout.out];exact jX rfl
    clear Hstep;go_upto_region 7 with (fail)
    refine wp_region_lit ?_;refine wV ?_;go_simp;refine wX (v:=iv t) ⟨gu,0,none⟩ (HLt.out) ?_;go_simp;refine fO ?_;obtain⟨ub,e6,v4,u4,hr4,ho4⟩:=OBI.app t HO5.out (by have:=Hlen.out;omega);refine yar (v:=.slice (some ⟨w5.heap.size,0,none⟩) 1 1) (by rfl) (yaV 22 1 #[(0,.tmp 24)] #[(0,iv t)] _ rfl (by simp only [List.map_toArray,List.map_cons,List.map_nil];rfl) (ybl t _)) (fun K hK=>?_);rw [e6];clear e6;go_simp;go_step
    refine yar (by rfl) (ybj (.tmp 23) (.tmp 25) 22 _ _ _ rfl rfl rfl hr4) (fun K hK=>?_);go_simp;go_step
    clear hr4;have HN4:=jX ho4;obtain⟨no,nc,rfl⟩:=ho4.form;clear ho4;go_wp2_with fail;go_roundw
    case rel=>exact ⟨k+1,by omega,congrArg (Value.int .i64) (by omega),by rw [Hst.out];exact HN4.out⟩
    case measure=>simp [intOf];omega
  obtain rfl:k=l.length:=by omega
  rw [List.take_length] at Hout
  have HX:Hid (IvR wr (.slice oo out.length oc) ((l.map mv).filter ok)):=by
   have:=HO.out.read;rw [← Hout.out] at this ⊢;exact this
  have HB:=jX HO.out.keep;have HN1:=jX (HN.out wr _ HX.out);clear HO HC HN HX;go_wp2_with fail;refine HN1.out.mono ?_;rintro e w6 ⟨v,rfl,hv,hk6⟩;dsimp only;have HV:=jX hv;have HB6:=jX (HB.out.trans (Below.mono hk6.bz HB.out.size));obtain⟨vo,vc,rfl,_⟩:=hv.form;clear hv hk6 HN1;go_wp2_with fail;go_ret
  exact ⟨_,rfl,HV.out,HB6.out⟩
theorem Erode_c (l:List (Iv K)) (q:Rat) (k0:Nat) (hk0:k0≤80000) (hs:∀ s∈l,SmI k0 s) (hq:FitQ 24 q) (w:World) (sv:Value) (hr:IvR w sv l) (h9:l.length≤10000) :
  Calls prog 53 #[sv,.agg (rC q)] w fun e w'=>∃ v,e = .returned v∧IvR w' v (eroK q l)∧Below w.heap.size w w':=by
 have HR:=jX hr;have HC:=jX (fun (u:World) (xa:Nat) (hb:u.heap[xa]? = some (.cells (rC q) 28)) (sv:Value) (h:IvR u sv l)=>widenE_c l (eroI q) okI xa u (fun s hs1 z hz=>erode1_c s q k0 hk0 (hs s hs1) hq z xa ((hz.block xa (yaa hb)).trans hb)) eroL_val sv h h9);obtain⟨ao,ac,rfl,_⟩:=hr.form;clear hr hs hq;go_enter func53,ntmps53
 go_upto_region 1 with (fail)
 obtain⟨W,ga,hW,ega,Bga,hga,hgW,HkW⟩:=al1h w (.cells (rC q) 28);rw [← hW];try rw [ega]
 clear hW ega;have H1:=jX (HC.out W ga Bga.out _ (HR.out.later HkW.out));clear HC;go_wp2_with fail;refine H1.out.mono ?_;rintro e w2 ⟨v,rfl,hv,hb⟩;dsimp only;have HV:=jX hv;have HB:=jX (HkW.out.bz.trans (Below.mono hb HkW.out.size));obtain⟨vo,vc,rfl,_⟩:=hv.form;clear hv hb H1;go_wp2_with fail;go_ret
 exact ⟨_,rfl,HV.out,HB.out⟩
theorem yiB (a b:Rat) (l:List (Iv K)):(l.map (swpI a b)).filter (fun _=>true)=swpL a b l:=List.filter_eq_self.2 (by simp)
theorem yiK {k:Nat} {a b:Rat} {l:List (Iv K)} (hk:k≤70000) (ha:FitQ 24 a) (hb:FitQ 24 b) (hab:a≤b) (hl:∀ i∈l,i.f<i.l) (sl:∀ i∈l,SmI k i):∀ i∈swpL a b l,i.f<i.l:=fun i hi=>by
 obtain⟨j,hj,rfl⟩:=List.mem_map.1 hi;have h1:mvB a j.f<mvB a j.l:=(yei (k:=k) (by omega) ha (sl j hj).1 (sl j hj).2).2 (hl j hj)
 have h2:mvK a j.l.pt≤mvK b j.l.pt:=by
  rw [K.le_def,yaS (sl j hj).2 (by omega) ha,yaS (sl j hj).2 (by omega) hb];exact fun hlt=>yfT j.l.pt.2.1.nn hab hlt
 have h3:mvB a j.l≤mvB b j.l:=by
  rw [Bd.le_def];show mvK a j.l.pt<mvK b j.l.pt∨(mvK a j.l.pt=mvK b j.l.pt∧(j.l.beh=true→j.l.beh=true))
  grind
 show mvB a j.f<mvB b j.l
 grind
theorem Sweep_c (l:List (Iv K)) (a b:Rat) (k0:Nat) (hk0:k0≤70000) (hs:∀ s∈l,SmI k0 s) (hl:∀ i∈l,i.f<i.l) (ha:FitQ 24 a) (hb:FitQ 24 b) (hab:a≤b) (w:World) (sv:Value) (hr:IvR w sv l) (h9:l.length≤10000) :
  Calls prog 59 #[sv,.agg (rC a),.agg (rC b)] w fun e w'=>∃ v,e = .returned v∧IvR w' v (swpK a b l)∧Below w.heap.size w w':=by
 have HR:=jX hr
 have HC:=jX (fun (u:World) (xa xb:Nat) (h1:u.heap[xa]? = some (.cells (rC a) 28)) (h2:u.heap[xb]? = some (.cells (rC b) 28)) (sv:Value) (h:IvR u sv l) =>
  widenS_c l (swpI a b) (fun _=>true) xa xb u (fun s hs1 z hz=>(sweep1_c s a b k0 (by omega) (hs s hs1) ha hb z xa xb ((hz.block xa (yaa h1)).trans h1) ((hz.block xb (yaa h2)).trans h2)).mono fun e w' h=>⟨h.1,h.2.bz⟩) (by rw [yiB];exact yiK hk0 ha hb hab hl hs) sv h h9)
 rw [yiB] at HC;obtain⟨ao,ac,rfl,_⟩:=hr.form;clear hr hs hl ha hb hab;go_enter func59,ntmps59
 go_upto_region 1 with (fail)
 obtain⟨W,ga,gb,hW,ega,egb,Bga,Bgb,hga,hgb,hgW,HkW⟩:=al2h w (.cells (rC a) 28) (.cells (rC b) 28);rw [← hW];try rw [egb]
 try rw [ega]
 clear hW ega egb;have H1:=jX (HC.out W ga gb Bga.out Bgb.out _ (HR.out.later HkW.out));clear HC;go_wp2_with fail;refine H1.out.mono ?_;rintro e w2 ⟨v,rfl,hv,hb⟩;dsimp only;have HV:=jX hv;have HB:=jX (HkW.out.bz.trans (Below.mono hb HkW.out.size));obtain⟨vo,vc,rfl,_⟩:=hv.form;clear hv hb H1;go_wp2_with fail;go_ret
 exact ⟨_,rfl,HV.out,HB.out⟩
end
end Go.Proofs.YtpgffjjpiafhpaaGreatDoor
