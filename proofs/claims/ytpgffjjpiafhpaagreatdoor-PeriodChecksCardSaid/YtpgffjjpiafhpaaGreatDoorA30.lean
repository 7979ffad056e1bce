/- Parts of a proof about this translation: Uh, Ui, Ky, Iz, Ib, Kz. -/
import Derived.Test.YtpgffjjpiafhpaaGreatDoorA29
import Derived.Test.YtpgffjjpiafhpaaGreatDoorA25
import Derived.Test.YtpgffjjpiafhpaaGreatDoorA23
import Derived.Test.YtpgffjjpiafhpaaGreatDoorA28
set_option linter.unusedVariables false
set_option linter.unusedSimpArgs false
set_option maxRecDepth 100000
set_option maxHeartbeats 8000000
namespace Go.Proofs.YtpgffjjpiafhpaaGreatDoor
open Go.RowKit
section
open Classical
def MI (w0 w:World) (L:List (Value × List (Iv K))):Prop:=Keep [] w0 w∧∀ p∈L,IvR w p.1 p.2
theorem MI.start (w:World):MI w w []:=⟨Keep.refl _ _,by simp⟩
theorem MI.add {w0 w w':World} {L:List (Value × List (Iv K))} (h:MI w0 w L) {v:Value} {l:List (Iv K)} (hk:Keep [] w w') (hv:IvR w' v l):MI w0 w' ((v,l) :: L) :=
 ⟨h.1.trans0 hk,fun p hp=>by
  rcases List.mem_cons.1 hp with rfl|hp
  ·exact hv
  exact (h.2 p hp).later hk⟩
theorem MI.move {w0 w w':World} {L:List (Value × List (Iv K))} (h:MI w0 w L) (hk:Keep [] w w'):MI w0 w' L:=⟨h.1.trans0 hk,fun p hp=>(h.2 p hp).later hk⟩
theorem MI.get {w0 w:World} {L:List (Value × List (Iv K))} (h:MI w0 w L) (v:Value) (l:List (Iv K)) (hm:(v,l)∈L):IvR w v l:=h.2 (v,l) hm
theorem pinstant_c (x:K) (w:World):Calls Tryz.prog 28 #[kv x] w fun e w'=>∃ v,e = .returned v∧IvR w' v [⟨⟨x,false⟩,⟨x,true⟩⟩]∧Keep [] w w':=by
 have HB:=jX (iv_b01 x x)
 show Calls Tryz.prog 28 #[.agg (kC x)] w _
 go_enter Tryz.func28,Tryz.ntmps28
 go_upto_region 1 with (fail)
 obtain⟨W,ga,hW,ega,Bga,hga,hgW,HkW⟩:=al1h w (.cells (kC x) 30)
 rw [← hW]
 try rw [ega]
 clear hW ega
 refine wp_region_lit ?_
 refine wpList_R (v:=kv x) (by rfl) (exec_load _ _ ⟨ga,0,none⟩ _ rfl rfl (load_real _ _ _ _ (kAt_box Bga.out))) (fun K hK=>?_)
 go_simp
 refine hK _ _ ?_
 clear hK K
 refine wpList_R (v:=kv x) (by rfl) (exec_load _ _ ⟨ga,0,none⟩ _ rfl rfl (load_real _ _ _ _ (kAt_box Bga.out))) (fun K hK=>?_)
 go_simp
 refine hK _ _ ?_
 clear hK K
 refine wpList_R (v:=iv ⟨⟨x,false⟩,⟨x,true⟩⟩) (by rfl) (exec_build _ #[(0,.tmp 3),(1,.tmp 4)] #[(0,kv x),(1,kv x)] _ rfl (by simp only [List.map_toArray,List.map_cons,List.map_nil];rfl) HB.out) (fun K hK=>?_)
 go_simp
 refine hK _ _ ?_
 clear hK K
 obtain⟨ub,gy,e3,e4,hz1,hkx,hx⟩:=IvR.single ⟨⟨x,false⟩,⟨x,true⟩⟩ W
 refine wpList_K (v:=.slice (some ⟨W.heap.size,0,none⟩) 1 1) (by rfl) (exec_bs 22 1 #[(0,.tmp 5)] #[(0,iv ⟨⟨x,false⟩,⟨x,true⟩⟩)] _ rfl (by simp only [List.map_toArray,List.map_cons,List.map_nil];rfl) (build1_i _ _)) (fun K hK=>?_)
 rw [e3,e4]
 clear e3
 go_simp
 refine hK _ _ ?_
 clear hK K
 have Hx:=jX hx
 have Hk:=jX (HkW.out.trans0 hkx)
 clear hx hkx
 go_wp2_with fail
 go_ret
 exact ⟨_,rfl,Hx.out,Hk.out⟩
end
section
open Classical
theorem iv_b013r (f1 f4 f7 t1 t4 t7:Bool) (f2 f3 f5 f6 t2 t3 t5 t6:ByteArray):Tryz.prog.built 32 [(0,.agg #[.bool f1,.string f2,.bool false,.string f3,.bool f4,.string f5,.bool false,.string f6,.bool f7]),(1,.agg #[.bool t1,.string t2,.bool false,.string t3,.bool t4,.string t5,.bool false,.string t6,.bool t7]),(3,.bool true)]=some #[.bool f1,.string f2,.bool false,.string f3,.bool f4,.string f5,.bool false,.string f6,.bool f7,.bool t1,.string t2,.bool false,.string t3,.bool t4,.string t5,.bool false,.string t6,.bool t7,.bool false,.bool true]:=by kernel_rfl
theorem iv_b013 (x y:K):Tryz.prog.built 32 [(0,kv x),(1,kv y),(3,.bool true)]=some (iC ⟨⟨x,false⟩,⟨y,false⟩⟩):=iv_b013r _ _ _ _ _ _ _ _ _ _ _ _ _ _
theorem iv_b012r (f1 f4 f7 t1 t4 t7:Bool) (f2 f3 f5 f6 t2 t3 t5 t6:ByteArray):Tryz.prog.built 32 [(0,.agg #[.bool f1,.string f2,.bool false,.string f3,.bool f4,.string f5,.bool false,.string f6,.bool f7]),(1,.agg #[.bool t1,.string t2,.bool false,.string t3,.bool t4,.string t5,.bool false,.string t6,.bool t7]),(2,.bool true)]=some #[.bool f1,.string f2,.bool false,.string f3,.bool f4,.string f5,.bool false,.string f6,.bool f7,.bool t1,.string t2,.bool false,.string t3,.bool t4,.string t5,.bool false,.string t6,.bool t7,.bool true,.bool false]:=by kernel_rfl
theorem iv_b012 (x y:K):Tryz.prog.built 32 [(0,kv x),(1,kv y),(2,.bool true)]=some (iC ⟨⟨x,true⟩,⟨y,true⟩⟩):=iv_b012r _ _ _ _ _ _ _ _ _ _ _ _ _ _
theorem eqT_run (i:Iv K) (w:World):(binOp .eql 32 (iv i) (iv i)).run Tryz.prog w = .ok (.bool true) w:=by rw [eqlI_run];simp
theorem one_has (i:Iv K) (x:Bd K):hasL [i] x=i.has x:=by rw [hasL_cons,hasL_nil,Bool.or_false]
theorem known_u {k0 k2 k3:K} (h1:k0<k2) (h2:k2<k3):combK 1 [⟨⟨k0,false⟩,⟨k2,false⟩⟩] [⟨⟨k2,false⟩,⟨k3,true⟩⟩]=[⟨⟨k0,false⟩,⟨k3,true⟩⟩]:=by
 refine combK_eq ?_ (fun x=>?_)
 ·refine ⟨?_,trivial⟩
  rw [Bd.lt_def];exact .inl (by dsimp only;grind)
 rw [one_has,one_has,one_has]
 unfold decV
 rw [if_pos rfl,Bool.eq_iff_iff,Bool.or_eq_true,Iv.has_iff,Iv.has_iff,Iv.has_iff]
 have a1:(⟨k0,false⟩:Bd K)<⟨k2,false⟩:=Bd.lt_def.2 (.inl h1)
 have a2:(⟨k2,false⟩:Bd K)<⟨k3,true⟩:=Bd.lt_def.2 (.inl h2)
 dsimp only
 grind
theorem known_m {k0 k1 k3:K} (h1:k0<k1) (h2:k1<k3):combK 3 [⟨⟨k0,false⟩,⟨k3,true⟩⟩] [⟨⟨k1,false⟩,⟨k1,true⟩⟩]=[⟨⟨k0,false⟩,⟨k1,false⟩⟩,⟨⟨k1,true⟩,⟨k3,true⟩⟩]:=by
 have a1:(⟨k0,false⟩:Bd K)<⟨k1,false⟩:=Bd.lt_def.2 (.inl h1)
 have a2:(⟨k1,false⟩:Bd K)<⟨k1,true⟩:=Bd.lt_def.2 (.inr ⟨rfl,rfl,rfl⟩)
 have a3:(⟨k1,true⟩:Bd K)<⟨k3,true⟩:=Bd.lt_def.2 (.inl h2)
 refine combK_eq ?_ (fun x=>?_)
 ·exact ⟨a1,a2,a3,trivial⟩
 rw [one_has,one_has,hasL_cons,one_has]
 unfold decV
 rw [if_neg (by decide),if_neg (by decide),Bool.eq_iff_iff,Bool.or_eq_true,Bool.and_eq_true,Bool.not_eq_true',← Bool.not_eq_true,Iv.has_iff,Iv.has_iff,Iv.has_iff,Iv.has_iff]
 dsimp only
 grind
theorem known_c0 (k0 k1 k2 k3:K) (h1:k0<k1) (h2:k1<k2) (h3:k2<k3) (c0:∀ w,Calls Tryz.prog 72 #[.int .i64 0] w fun e w'=>e = .returned (kv k0)∧Keep [] w w') (c1:∀ w,Calls Tryz.prog 72 #[.int .i64 1] w fun e w'=>e = .returned (kv k1)∧Keep [] w w')
  (c2:∀ w,Calls Tryz.prog 72 #[.int .i64 2] w fun e w'=>e = .returned (kv k2)∧Keep [] w w') (c3:∀ w,Calls Tryz.prog 72 #[.int .i64 3] w fun e w'=>e = .returned (kv k3)∧Keep [] w w') (w:World) :
  Calls Tryz.prog 15 #[] w fun e w'=>e = .returned (.bool true)∧Keep [] w w':=by
 have C0:=jX c0
 have C1:=jX c1
 have C2:=jX c2
 have C3:=jX c3
 have hv1:(⟨⟨k0,false⟩,⟨k2,false⟩⟩:Iv K).f<(⟨⟨k0,false⟩,⟨k2,false⟩⟩:Iv K).l:=Bd.lt_def.2 (.inl (by dsimp only;grind))
 have hv2:(⟨⟨k2,false⟩,⟨k3,true⟩⟩:Iv K).f<(⟨⟨k2,false⟩,⟨k3,true⟩⟩:Iv K).l:=Bd.lt_def.2 (.inl (by dsimp only;grind))
 have hv3:(⟨⟨k0,false⟩,⟨k3,true⟩⟩:Iv K).f<(⟨⟨k0,false⟩,⟨k3,true⟩⟩:Iv K).l:=Bd.lt_def.2 (.inl (by dsimp only;grind))
 have hv4:(⟨⟨k1,false⟩,⟨k1,true⟩⟩:Iv K).f<(⟨⟨k1,false⟩,⟨k1,true⟩⟩:Iv K).l:=Bd.lt_def.2 (.inr ⟨rfl,rfl,rfl⟩)
 have HU:=jX (fun w sv tv hr hs=>Union_p [⟨⟨k0,false⟩,⟨k2,false⟩⟩] [⟨⟨k2,false⟩,⟨k3,true⟩⟩] (fun i hi=>by simp at hi;subst hi;exact hv1) (fun i hi=>by simp at hi;subst hi;exact hv2) w sv tv hr hs (by simp) (by simp))
 have HM:=jX (fun w sv tv hr hs=>Minus_p [⟨⟨k0,false⟩,⟨k3,true⟩⟩] [⟨⟨k1,false⟩,⟨k1,true⟩⟩] (fun i hi=>by simp at hi;subst hi;exact hv3) (fun i hi=>by simp at hi;subst hi;exact hv4) w sv tv hr hs (by simp) (by simp))
 rw [known_u (by grind) h3] at HU
 rw [known_m h1 (by grind)] at HM
 have HI:=jX (pinstant_c k1)
 clear c0 c1 c2 c3 h1 h2 h3 hv1 hv2 hv3 hv4
 go_enter Tryz.func15,Tryz.ntmps15
 go_upto_region 1 with (fail)
 refine wp_region_lit ?_
 refine wpList_plain (by rfl) (fun K hK=>?_)
 refine wp_enter 72 #[.int .i64 0] (by go_simp) ?_
 refine (C0.out _).mono ?_
 rintro e w1 ⟨rfl,hk_w1⟩
 refine ⟨_,rfl,?_⟩
 go_simp
 refine hK _ _ ?_
 clear hK K
 refine wpList_plain (by rfl) (fun K hK=>?_)
 refine wp_enter 72 #[.int .i64 2] (by go_simp) ?_
 refine (C2.out _).mono ?_
 rintro e w2 ⟨rfl,hk_w2⟩
 refine ⟨_,rfl,?_⟩
 go_simp
 refine hK _ _ ?_
 clear hK K
 refine wpList_R (v:=iv ⟨⟨k0,false⟩,⟨k2,false⟩⟩) (by rfl) (exec_build _ #[(0,.tmp 5),(1,.tmp 6),(3,.const (.bool true))] #[(0,kv k0),(1,kv k2),(3,.bool true)] _ rfl (by simp only [List.map_toArray,List.map_cons,List.map_nil];rfl) (iv_b013 k0 k2)) (fun K hK=>?_)
 go_simp
 refine hK _ _ ?_
 clear hK K
 obtain⟨w3,ga,e3,e4,_,hk3,hx3⟩:=IvR.single ⟨⟨k0,false⟩,⟨k2,false⟩⟩ w2
 refine wpList_K (v:=.slice (some ⟨(w2).heap.size,0,none⟩) 1 1) (by rfl) (exec_bs 22 1 #[(0,.tmp 7)] #[(0,iv ⟨⟨k0,false⟩,⟨k2,false⟩⟩)] _ rfl (by simp only [List.map_toArray,List.map_cons,List.map_nil];rfl) (build1_i _ _)) (fun K hK=>?_)
 rw [e3,e4]
 clear e3 e4
 go_simp
 refine hK _ _ ?_
 clear hK K
 have HMI:=jX ((MI.start w).add ((hk_w1.trans0 hk_w2).trans0 hk3) hx3)
 clear hk_w1 hk_w2 hk3 hx3
 go_upto_region 2 with (fail)
 refine wp_region_lit ?_
 refine wpList_plain (by rfl) (fun K hK=>?_)
 refine wp_enter 72 #[.int .i64 2] (by go_simp) ?_
 refine (C2.out _).mono ?_
 rintro e w4 ⟨rfl,hk_w4⟩
 refine ⟨_,rfl,?_⟩
 go_simp
 refine hK _ _ ?_
 clear hK K
 refine wpList_plain (by rfl) (fun K hK=>?_)
 refine wp_enter 72 #[.int .i64 3] (by go_simp) ?_
 refine (C3.out _).mono ?_
 rintro e w5 ⟨rfl,hk_w5⟩
 refine ⟨_,rfl,?_⟩
 go_simp
 refine hK _ _ ?_
 clear hK K
 refine wpList_R (v:=iv ⟨⟨k2,false⟩,⟨k3,true⟩⟩) (by rfl) (exec_build _ #[(0,.tmp 9),(1,.tmp 10)] #[(0,kv k2),(1,kv k3)] _ rfl (by simp only [List.map_toArray,List.map_cons,List.map_nil];rfl) (iv_b01 k2 k3)) (fun K hK=>?_)
 go_simp
 refine hK _ _ ?_
 clear hK K
 obtain⟨w6,gb,e3,e4,_,hk6,hx6⟩:=IvR.single ⟨⟨k2,false⟩,⟨k3,true⟩⟩ w5
 refine wpList_K (v:=.slice (some ⟨(w5).heap.size,0,none⟩) 1 1) (by rfl) (exec_bs 22 1 #[(0,.tmp 11)] #[(0,iv ⟨⟨k2,false⟩,⟨k3,true⟩⟩)] _ rfl (by simp only [List.map_toArray,List.map_cons,List.map_nil];rfl) (build1_i _ _)) (fun K hK=>?_)
 rw [e3,e4]
 clear e3 e4
 go_simp
 refine hK _ _ ?_
 clear hK K
 have HMI:=jX (HMI.out.add ((hk_w4.trans0 hk_w5).trans0 hk6) hx6)
 clear hk_w4 hk_w5 hk6 hx6
 go_wp2_with fail
 refine (HU.out _ _ _ (HMI.out.get _ _ (by simp)) (HMI.out.get _ _ (by simp))).mono ?_
 rintro e w7 ⟨v7,rfl,hv7,hk7⟩
 dsimp only
 have HMI:=jX (HMI.out.add hk7 hv7)
 obtain⟨ou,cu,rfl,_⟩:=hv7.form
 clear hv7 hk7
 go_upto_region 4 with (fail)
 refine wp_region_lit ?_
 refine' wpList_R (v:=_) (by rfl) (?ha) (fun K hK=>?ka)
 case ha=>(go_simp;try rfl)
 go_simp
 refine hK _ _ ?_
 clear hK K
 refine wpList_plain (by rfl) (fun K hK=>?_)
 refine wp_enter 72 #[.int .i64 1] (by go_simp) ?_
 refine (C1.out _).mono ?_
 rintro e w8 ⟨rfl,hk_w8⟩
 refine ⟨_,rfl,?_⟩
 go_simp
 refine hK _ _ ?_
 clear hK K
 refine wpList_plain (by rfl) (fun K hK=>?_)
 refine wp_enter 28 #[kv k1] (by go_simp) ?_
 refine (HI.out _).mono ?_
 rintro e w9 ⟨v9,rfl,hv9,hk9⟩
 refine ⟨_,rfl,?_⟩
 go_simp
 refine hK _ _ ?_
 clear hK K
 have HMI:=jX (HMI.out.add (hk_w8.trans0 hk9) hv9)
 clear hk_w8 hk9 hv9
 refine wpList_plain (by rfl) (fun K hK=>?_)
 refine wp_enter 74 #[.slice ou 1 cu,v9] (by go_simp) ?_
 refine (HM.out _ _ _ (HMI.out.get _ _ (by simp)) (HMI.out.get v9 _ (by simp))).mono ?_
 rintro e w10 ⟨v10,rfl,hv10,hk10⟩
 refine ⟨_,rfl,?_⟩
 go_simp
 refine hK _ _ ?_
 clear hK K
 have HMI:=jX (HMI.out.add hk10 hv10)
 obtain⟨om,cm,rfl,_⟩:=hv10.form
 clear hv10 hk10 HU HM HI
 obtain⟨gu,pu,rfl,hgu,hatu⟩:=IvR.elem (HMI.out.get (.slice ou 1 cu) [⟨⟨k0,false⟩,⟨k3,true⟩⟩] (by simp)) 0 (by simp)
 obtain⟨gm,pm,rfl,hgm,hat0⟩:=IvR.elem (HMI.out.get (.slice om 2 cm) [⟨⟨k0,false⟩,⟨k1,false⟩⟩,⟨⟨k1,true⟩,⟨k3,true⟩⟩] (by simp)) 0 (by simp)
 obtain⟨gm',pm',hgm',_,hat1⟩:=IvR.elem (HMI.out.get (.slice (some ⟨gm,pm,none⟩) 2 cm) [⟨⟨k0,false⟩,⟨k1,false⟩⟩,⟨⟨k1,true⟩,⟨k3,true⟩⟩] (by simp)) 1 (by simp)
 injection hgm' with hgm'
 injection hgm' with q1 q2
 subst q1 q2
 have HLu:=jX (hatu.ld hgu)
 have HL0:=jX (hat0.ld hgm)
 have HL1:=jX (hat1.ld hgm)
 simp only [Nat.zero_mul,Nat.one_mul,Nat.add_zero,List.getElem_cons_zero,List.getElem_cons_succ] at HLu HL0 HL1
 have E1:=jX (eqT_run ⟨⟨k0,false⟩,⟨k3,true⟩⟩)
 have E2:=jX (eqT_run ⟨⟨k0,false⟩,⟨k1,false⟩⟩)
 have E3:=jX (eqT_run ⟨⟨k1,true⟩,⟨k3,true⟩⟩)
 have B1:=jX (iv_b01 k0 k3)
 have B2:=jX (iv_b013 k0 k1)
 have B3:=jX (iv_b012 k1 k3)
 have HKz:=jX HMI.out.1
 clear hatu hat0 hat1 HMI
 have Q0:Hid (∀ m:KW w10,Calls Tryz.prog 72 #[.int .i64 0] (Wk w10 m) fun e w'=>e = .returned (kv k0)∧∃ m,w'=Wk w10 m):=fun m=>qk m (C0.out _)
 have Q1:Hid (∀ m:KW w10,Calls Tryz.prog 72 #[.int .i64 1] (Wk w10 m) fun e w'=>e = .returned (kv k1)∧∃ m,w'=Wk w10 m):=fun m=>qk m (C1.out _)
 have Q3:Hid (∀ m:KW w10,Calls Tryz.prog 72 #[.int .i64 3] (Wk w10 m) fun e w'=>e = .returned (kv k3)∧∃ m,w'=Wk w10 m):=fun m=>qk m (C3.out _)
 clear C0 C1 C2 C3
 unfold kv iv at *
 generalize kC k0=K0 at *
 generalize kC k1=K1 at *
 generalize kC k2=K2 at *
 generalize kC k3=K3 at *
 generalize iC ⟨⟨k0,false⟩,⟨k3,true⟩⟩=I1 at *
 generalize iC ⟨⟨k0,false⟩,⟨k1,false⟩⟩=I2 at *
 generalize iC ⟨⟨k1,true⟩,⟨k3,true⟩⟩=I3 at *
 go_upto_region 5 with (fail)
 refine wp_region_keep (by kernel_rfl) (by kernel_rfl) ?_
 repeat (first
  | go_big_quiet_skip
  | (go_big_quiet_want;first
   | (refine quiet_load _ _ _ (.agg I1) rfl rfl (by rintro _ ⟨m,rfl⟩;exact HLu.out m) ?_;go_simp;go_big_quiet_on)|(refine quiet_load _ _ _ (.agg I2) rfl rfl (by rintro _ ⟨m,rfl⟩;exact HL0.out m) ?_;go_simp;go_big_quiet_on)|(refine quiet_load _ _ _ (.agg I3) rfl rfl (by rintro _ ⟨m,rfl⟩;exact HL1.out m) ?_;go_simp;go_big_quiet_on)|(refine quiet_build _ _ #[(0,.agg K0),(1,.agg K3)] (I1) rfl (by simp only [List.map_toArray,List.map_cons,List.map_nil];rfl) B1.out ?_;go_simp;go_big_quiet_on)|(refine quiet_build _ _ #[(0,.agg K0),(1,.agg K1),(3,.bool true)] (I2) rfl (by simp only [List.map_toArray,List.map_cons,List.map_nil];rfl) B2.out ?_;go_simp;go_big_quiet_on)|(refine quiet_build _ _ #[(0,.agg K1),(1,.agg K3),(2,.bool true)] (I3) rfl (by simp only [List.map_toArray,List.map_cons,List.map_nil];rfl) B3.out ?_;go_simp;go_big_quiet_on)|(refine quiet_bin _ _ _ _ _ _ _ (.bool true) rfl rfl rfl eqI_g (by intro w;exact E1.out w) ?_;go_simp;go_big_quiet_on)|(refine quiet_bin _ _ _ _ _ _ _ (.bool true) rfl rfl rfl eqI_g (by intro w;exact E2.out w) ?_;go_simp;go_big_quiet_on)|(refine quiet_bin _ _ _ _ _ _ _ (.bool true) rfl rfl rfl eqI_g (by intro w;exact E3.out w) ?_;go_simp;go_big_quiet_on)
   | (go_big_quiet_op;first|go_big_quiet_on|go_big_quiet_call (first
    | (go_at_call 72;with_reducible exact (Q0).out _)|(go_at_call 72;with_reducible exact (Q1).out _)|(go_at_call 72;with_reducible exact (Q3).out _)))))
 refine wpQuiet_nil ?_
 rintro wz ⟨⟨_,hk_wz⟩,rfl⟩
 have HkZ:=jX (HKz.out.trans0 hk_wz)
 clear hk_wz
 go_wp2_with fail
 go_ret
 exact ⟨rfl,HkZ.out⟩
theorem known_c (w:World):Calls Tryz.prog 15 #[] w fun e w'=>e = .returned (.bool true)∧Keep [] w w' :=
 known_c0 (kN 0 (by decide)) (kN 1 (by decide)) (kN 2 (by decide)) (kN 3 (by decide)) (kN_lt.2 (by decide)) (kN_lt.2 (by decide)) (kN_lt.2 (by decide)) (fun w=>lwhole_c 0 (by decide) w) (fun w=>lwhole_c 1 (by decide) w) (fun w=>lwhole_c 2 (by decide) w) (fun w=>lwhole_c 3 (by decide) w) w
end
section
open Classical
structure RawI where
 f:RawR
 t:RawR
 o:Bool
 c:Bool
def RawI.cells (r:RawI):List Value:=r.f.cells++r.t.cells++[.bool r.o,.bool r.c]
def RawI.C (r:RawI):Array Value:=r.cells.toArray
def RawI.v (r:RawI):Value:=.agg r.C
def RawI.of (i:Iv K):RawI:=⟨RawR.of i.f.pt.1,RawR.of i.l.pt.1,i.f.beh,!i.l.beh⟩
theorem RawI.of_inj {i j:Iv K} (h:RawI.of i=RawI.of j):i=j:=by
 unfold RawI.of at h
 injection h with h1 h2 h3 h4
 have e1:i.f.pt=j.f.pt:=Subtype.ext (RawR.of_inj h1)
 have e2:i.l.pt=j.l.pt:=Subtype.ext (RawR.of_inj h2)
 have e4:i.l.beh=j.l.beh:=by simpa using h4
 obtain⟨⟨a,b⟩,⟨c,d⟩⟩:=i
 obtain⟨⟨a',b'⟩,⟨c',d'⟩⟩:=j
 dsimp only at *
 subst e1 e2 h3 e4
 rfl
def RawI.sz (r:RawI) (k:Nat):Prop:=r.f.sz k∧r.t.sz k
theorem RawR.toK {x:RawR} (h:x.isK) (hs:x.sz 100000):∃ k:K,x=RawR.of k.1:=by
 obtain⟨q,hq,rfl⟩:=h
 have hd:∀ n:Nat,(dnS n).size≤100000→Fit 100000 (n:Int):=fun n h=>by
  unfold dnS at h
  unfold Fit mgS
  rw [Int.natAbs_natCast]
  split at h
  ·rename_i h1;rw [h1];exact Nat.le_trans ((magS_size 1 1).2 (by decide)) (by decide)
  exact h
 obtain⟨s1,s2,s3,s4⟩:=hs
 exact ⟨⟨q,hq,⟨s1,hd _ s2⟩,⟨s3,hd _ s4⟩⟩,rfl⟩
theorem RawI.toI {r:RawI} (h1:r.f.isK) (h2:r.t.isK) (hs:r.sz 100000):∃ i:Iv K,r=RawI.of i:=by
 obtain⟨a,ha⟩:=RawR.toK h1 hs.1
 obtain⟨b,hb⟩:=RawR.toK h2 hs.2
 obtain⟨f,t,o,c⟩:=r
 dsimp only at *
 subst ha hb
 exact ⟨⟨⟨a,o⟩,⟨b,!c⟩⟩,by unfold RawI.of;simp⟩
noncomputable def eI (r:RawI):Int:=if h:∃ i:Iv K,r=RawI.of i then (if h.choose.f<h.choose.l then 0 else 10) else 5
theorem eI_of (i:Iv K):eI (RawI.of i)=if i.f<i.l then 0 else 10:=by
 have h:∃ j:Iv K,RawI.of i=RawI.of j:=⟨i,rfl⟩
 unfold eI
 rw [dif_pos h,← RawI.of_inj h.choose_spec]
theorem eI_no {r:RawI} (h:¬ (r.f.isK∧r.t.isK)):eI r=5:=dif_neg (by
 rintro ⟨i,rfl⟩
 exact h ⟨⟨_,i.f.pt.2.1,rfl⟩,⟨_,i.l.pt.2.1,rfl⟩⟩)
theorem raw_len (x:RawR):x.cells.length=9:=rfl
theorem load_raw (w:World) (b o:Nat) (x:RawR) (hc:∀ k v,x.cells[k]? = some v→w.cell? ⟨b,o+k,none⟩=some v):(loadVar 30 ⟨b,o,none⟩).run Tryz.prog w = .ok x.v w:=by
 obtain⟨ie,hie,hs⟩:=infoReal
 exact Go.Lib.rl_loadVar_cells 30 ie hie Tryz.isAgg30 b o x.cells (by rw [hs];rfl) w hc
theorem load_rawi (w:World) (b o:Nat) (r:RawI) (hc:∀ k v,r.cells[k]? = some v→w.cell? ⟨b,o+k,none⟩=some v):(loadVar 32 ⟨b,o,none⟩).run Tryz.prog w = .ok r.v w:=by
 obtain⟨ie,hie,hs⟩:=infoIv
 exact Go.Lib.rl_loadVar_cells 32 ie hie Tryz.isAgg32 b o r.cells (by rw [hs];rfl) w hc
def RIAt (w:World) (b o:Nat) (r:RawI):Prop:=∀ k v,r.cells[k]? = some v→w.cell? ⟨b,o+k,none⟩=some v
theorem RIAt.frm {w:World} {b o:Nat} {r:RawI} (h:RIAt w b o r):∀ k v,r.f.cells[k]? = some v→w.cell? ⟨b,o+k,none⟩=some v:=fun k v hk=>by
 refine h k v ?_
 have hl:k<9:=by have:=(List.getElem?_eq_some_iff.1 hk).1;rwa [raw_len] at this
 unfold RawI.cells
 rw [List.append_assoc,List.getElem?_append_left (by rw [raw_len];exact hl)]
 exact hk
theorem RIAt.upto {w:World} {b o:Nat} {r:RawI} (h:RIAt w b o r):∀ k v,r.t.cells[k]? = some v→w.cell? ⟨b,o+9+k,none⟩=some v:=fun k v hk=>by
 have hl:k<9:=by have:=(List.getElem?_eq_some_iff.1 hk).1;rwa [raw_len] at this
 have:=h (9+k) v (by
  unfold RawI.cells
  rw [List.append_assoc,List.getElem?_append_right (by rw [raw_len];omega),raw_len,List.getElem?_append_left (by rw [raw_len];omega),Nat.add_sub_cancel_left]
  exact hk)
 rwa [← Nat.add_assoc] at this
theorem rAt_box {w:World} {g:Nat} {r:RawI} {t:TypeId} (h:w.heap[g]? = some (.cells r.C t)):RIAt w g 0 r:=fun k v hk=>by
 rw [Nat.zero_add,cell_of h]
 exact (List.getElem?_toArray ..).trans hk
end
section
variable {P:Program} {ops:Array Oper} {Q:Exit→Act→World→Prop} {rest:List Oper} {o:Oper} {a:Act} {w:World}
theorem gWC (hw:Region.wanted o (yielded ops a.tmps)=true)
  (h:∀ K:Act→World→Prop,(∀ a w,wpList P ops Q rest a w→K a w)→o.wp P a w K Q):wpList P ops Q (o :: rest) a w:=by
 unfold wpList
 rw [if_pos hw]
 exact .inl (h _ fun _ _ h=>h)
theorem gWE (hw:Region.wanted o (yielded ops a.tmps)=true)
  (h:∃ v,(execOp a.eval o).run P w = .ok (.value v) w∧∀ K:Act→World→Prop,(∀ a w,wpList P ops Q rest a w→K a w)→K (a.put o.dst v) w):wpList P ops Q (o :: rest) a w:=by
 obtain⟨v,h1,h2⟩:=h
 exact gWC hw fun K hK=>wp_op v w h1 (h2 K hK)
theorem gWS (hw:Region.wanted o (yielded ops a.tmps)=false)
  (h:∀ K:Act→World→Prop,(∀ a w,wpList P ops Q rest a w→K a w)→K (a.put o.dst undef) w):wpList P ops Q (o :: rest) a w:=by
 unfold wpList
 rw [hw]
 exact h _ fun _ _ h=>h
end
section
open Classical
theorem seam (i b:Bd K) :
  (cmpQ i.pt.1 b.pt.1 = -1∧(i.pt<b.pt∨i<b)) ∨
  (cmpQ i.pt.1 b.pt.1=0∧i.beh=false∧b.beh=true∧(i.pt<b.pt∨i<b)) ∨
  (cmpQ i.pt.1 b.pt.1=0∧i.beh=b.beh ∧ ¬ (i.pt<b.pt∨i<b)∧b=i) ∨
  (cmpQ i.pt.1 b.pt.1=0∧i.beh=true∧b.beh=false ∧ ¬ (i.pt<b.pt∨i<b)∧b≠i) ∨
  (cmpQ i.pt.1 b.pt.1=1 ∧ ¬ (i.pt<b.pt∨i<b)∧b≠i):=by
 obtain⟨p,x⟩:=i
 obtain⟨q,y⟩:=b
 rw [Bd.lt_def]
 dsimp only
 rcases K.tri p q with ⟨h,g⟩|⟨h,g⟩|⟨h,g⟩
 ·right;right;right;right
  refine ⟨h,by grind,fun e=>?_⟩
  injection e with e _
  subst e
  grind
 ·exact .inl ⟨h,.inl g⟩
 subst g
 right
 cases x<;>cases y<;>simp [h]<;>grind
end
section
open Classical
section
variable {P:Program} {ops:Array Oper} {Q:Exit→Act→World→Prop}
theorem wantedC {rest:List Oper} {o:Oper} {a:Act} {w:World} (hw:Region.wanted o (yielded ops a.tmps)=true)
  (h:∀ K:Act→World→Prop,(∀ a w,wpList P ops Q rest a w→K a w)→o.wp P a w K Q):wpList P ops Q (o :: rest) a w:=by
 unfold wpList
 rw [if_pos hw]
 exact .inl (h _ fun _ _ h=>h)
theorem wantedR {rest:List Oper} {o:Oper} {a:Act} {w:World} {v:Value} (hw:Region.wanted o (yielded ops a.tmps)=true) (h:(execOp a.eval o).run P w = .ok (.value v) w)
  (hk:∀ K:Act→World→Prop,(∀ a w,wpList P ops Q rest a w→K a w)→K (a.put o.dst v) w):wpList P ops Q (o :: rest) a w:=wantedC hw fun K hK=>wp_op v w h (hk K hK)
end
theorem pci_p (r:RawI) (hs:r.sz 100000) (w:World):Calls Tryz.prog 17 #[r.v] w fun e w'=>e = .returned (.int .i64 (eI r))∧Below w.heap.size w w':=by
 have H1:=jX (rchk_p r.f ⟨Nat.le_trans hs.1.1 (by decide),Nat.le_trans hs.1.2.1 (by decide),Nat.le_trans hs.1.2.2.1 (by decide),Nat.le_trans hs.1.2.2.2 (by decide)⟩)
 have H2:=jX (rchk_p r.t ⟨Nat.le_trans hs.2.1 (by decide),Nat.le_trans hs.2.2.1 (by decide),Nat.le_trans hs.2.2.2.1 (by decide),Nat.le_trans hs.2.2.2.2 (by decide)⟩)
 have HLd:=jX (fun (u:World) (g:Nat) (h:u.heap[g]? = some (.cells r.C 32))=>And.intro (load_raw u g 0 r.f (rAt_box h).frm) (load_raw u g (0+9) r.t (rAt_box h).upto))
 have hv:r.v = .agg r.C:=rfl
 by_cases hf:r.f.isK
 ·rw [decide_eq_true hf,show errF true = .int .i64 0 from rfl] at H1
  by_cases ht:r.t.isK
  ·rw [decide_eq_true ht,show errF true = .int .i64 0 from rfl] at H2
   obtain⟨i,hi⟩:=RawI.toI hf ht hs
   have he:eI r=if i.f<i.l then 0 else 10:=by rw [hi,eI_of]
   have HLi:=jX (fun (u:World) (g:Nat) (h:u.heap[g]? = some (.cells r.C 32))=>load_rawi u g 0 r (rAt_box h))
   have H3:=jX (first_c i)
   have H4:=jX (last_c i)
   have H5:=jX (bcmp_c i.f i.l)
   have hiv:iv i = .agg r.C:=by rw [hi];rfl
   have hcm:(0≤cmpB i.f i.l) ↔ ¬ i.f<i.l:=by
    have h0:=cmpB_lt i.f i.l
    constructor
    ·intro h h2
     have:=h0.2 h2
     omega
    intro h
    exact Int.not_lt.1 fun h2=>h (h0.1 h2)
   rw [he,hv]
   rw [hiv] at H3 H4
   rw [hv] at HLi
   unfold bv at H3 H4 H5
   generalize (bcells i.f).toArray=BF at *
   generalize (bcells i.l).toArray=BL at *
   generalize cmpB i.f i.l=n at *
   clear hf ht hs hi he hiv hv
   generalize r.f.v=fv at *
   generalize r.t.v=tv at *
   generalize r.C=C at *
   by_cases hlt:i.f<i.l
   ·have hn:¬ 0≤n:=fun h=>(hcm.1 h) hlt
    rw [if_pos hlt]
    clear hcm hlt
    go_enter Tryz.func17,Tryz.ntmps17
    go_upto_region 1 with (fail)
    obtain⟨W,ga,hW,ega,Bga,hga,hgW,HkW⟩:=al1h w (.cells C 32)
    rw [← hW]
    try rw [ega]
    clear hW ega
    have HF:=jX ((HLd.out W ga Bga.out).1)
    have HT:=jX ((HLd.out W ga Bga.out).2)
    refine wp_region_lit ?_
    refine' wpList_R (v:=_) (by rfl) (?ha1) (fun K hK=>?ka1)
    case ha1=>(go_simp;try rfl)
    go_simp
    refine hK _ _ ?_
    clear hK K
    refine wpList_R (v:=fv) (by rfl) (exec_load _ _ ⟨ga,0,none⟩ _ rfl rfl HF.out) (fun K hK=>?_)
    go_simp
    refine hK _ _ ?_
    clear hK K
    refine wpList_plain (by rfl) (fun K hK=>?_)
    refine wp_enter 75 #[fv] (by go_simp) ?_
    refine (H1.out _).mono ?_
    rintro e w1 ⟨rfl,hb1⟩
    refine ⟨_,rfl,?_⟩
    go_simp
    refine hK _ _ ?_
    clear hK K
    have HB1:=jX (HkW.out.below0.trans (Below.mono hb1 HkW.out.size))
    have B2ga:=jX ((hb1.block ga (lt_of_heap Bga.out)).trans Bga.out)
    clear Bga
    have Bga:=B2ga
    clear B2ga
    have HT:=jX ((HLd.out w1 ga Bga.out).2)
    clear hb1 HF
    refine' wpList_R (v:=_) (by rfl) (?hb1) (fun K hK=>?kb1)
    case hb1=>(go_simp;try rfl)
    go_simp
    refine hK _ _ ?_
    clear hK K
    refine' wpList_R (v:=_) (by rfl) (?hc1) (fun K hK=>?kc1)
    case hc1=>(go_simp;try rfl)
    go_simp
    refine hK _ _ ?_
    clear hK K
    refine' wantedR (v:=_) (by rfl) (?hd1) (fun K hK=>?kd1)
    case hd1=>(go_simp;try rfl)
    go_simp
    refine hK _ _ ?_
    clear hK K
    refine wantedR (v:=tv) (by rfl) (exec_load _ _ ⟨ga,9,none⟩ _ rfl rfl HT.out) (fun K hK=>?_)
    go_simp
    refine hK _ _ ?_
    clear hK K
    refine wantedC (by rfl) (fun K hK=>?_)
    refine wp_enter 75 #[tv] (by go_simp) ?_
    refine (H2.out _).mono ?_
    rintro e w2 ⟨rfl,hb2⟩
    refine ⟨_,rfl,?_⟩
    go_simp
    refine hK _ _ ?_
    clear hK K
    have HB2:=jX (HB1.out.trans (Below.mono hb2 HB1.out.size))
    have B2ga:=jX ((hb2.block ga (lt_of_heap Bga.out)).trans Bga.out)
    clear Bga
    have Bga:=B2ga
    clear B2ga
    clear hb2 HT
    go_wp2_with fail
    have HX:Hid (∀ m:KW w2,(loadVar 32 ⟨ga,0,none⟩).run Tryz.prog (Wk w2 m) = .ok (.agg C) (Wk w2 m)):=fun m=>HLi.out _ ga (m.k.heap Bga.out (by simp))
    have Q3:Hid (∀ m:KW w2,Calls Tryz.prog 77 #[.agg C] (Wk w2 m) fun e w'=>e = .returned (.agg BF)∧∃ m,w'=Wk w2 m):=fun m=>qk m (H3.out _)
    have Q4:Hid (∀ m:KW w2,Calls Tryz.prog 78 #[.agg C] (Wk w2 m) fun e w'=>e = .returned (.agg BL)∧∃ m,w'=Wk w2 m):=fun m=>qk m (H4.out _)
    have Q5:Hid (∀ m:KW w2,Calls Tryz.prog 76 #[.agg BF,.agg BL] (Wk w2 m) fun e w'=>e = .returned (.int .i64 n)∧∃ m,w'=Wk w2 m):=fun m=>qk m (H5.out _)
    refine wp_region_keep (by kernel_rfl) (by kernel_rfl) ?_
    repeat (first
     | go_big_quiet_skip
     | (go_big_quiet_want;first
      | (refine quiet_load _ _ _ (.agg C) rfl rfl (by rintro _ ⟨m,rfl⟩;exact HX.out m) ?_;go_simp;go_big_quiet_on)
      | (go_big_quiet_op;first|go_big_quiet_on|go_big_quiet_call (first
       | (go_at_call 77;with_reducible exact (Q3).out _)|(go_at_call 78;with_reducible exact (Q4).out _)|(go_at_call 76;with_reducible exact (Q5).out _)))))
    refine wpQuiet_nil ?_
    rintro w3 ⟨⟨_,hk_w3⟩,rfl⟩
    have HB3:=jX (HB2.out.trans (Below.mono hk_w3.below0 HB2.out.size))
    clear hk_w3
    go_wp2_with fail
    go_ret
    exact ⟨rfl,HB3.out⟩
   have hn:0≤n:=hcm.2 hlt
   rw [if_neg hlt]
   clear hcm hlt
   go_enter Tryz.func17,Tryz.ntmps17
   go_upto_region 1 with (fail)
   obtain⟨W,ga,hW,ega,Bga,hga,hgW,HkW⟩:=al1h w (.cells C 32)
   rw [← hW]
   try rw [ega]
   clear hW ega
   have HF:=jX ((HLd.out W ga Bga.out).1)
   have HT:=jX ((HLd.out W ga Bga.out).2)
   refine wp_region_lit ?_
   refine' wpList_R (v:=_) (by rfl) (?ha4) (fun K hK=>?ka4)
   case ha4=>(go_simp;try rfl)
   go_simp
   refine hK _ _ ?_
   clear hK K
   refine wpList_R (v:=fv) (by rfl) (exec_load _ _ ⟨ga,0,none⟩ _ rfl rfl HF.out) (fun K hK=>?_)
   go_simp
   refine hK _ _ ?_
   clear hK K
   refine wpList_plain (by rfl) (fun K hK=>?_)
   refine wp_enter 75 #[fv] (by go_simp) ?_
   refine (H1.out _).mono ?_
   rintro e w1 ⟨rfl,hb1⟩
   refine ⟨_,rfl,?_⟩
   go_simp
   refine hK _ _ ?_
   clear hK K
   have HB1:=jX (HkW.out.below0.trans (Below.mono hb1 HkW.out.size))
   have B2ga:=jX ((hb1.block ga (lt_of_heap Bga.out)).trans Bga.out)
   clear Bga
   have Bga:=B2ga
   clear B2ga
   have HT:=jX ((HLd.out w1 ga Bga.out).2)
   clear hb1 HF
   refine' wpList_R (v:=_) (by rfl) (?hb4) (fun K hK=>?kb4)
   case hb4=>(go_simp;try rfl)
   go_simp
   refine hK _ _ ?_
   clear hK K
   refine' wpList_R (v:=_) (by rfl) (?hc4) (fun K hK=>?kc4)
   case hc4=>(go_simp;try rfl)
   go_simp
   refine hK _ _ ?_
   clear hK K
   refine' wantedR (v:=_) (by rfl) (?hd4) (fun K hK=>?kd4)
   case hd4=>(go_simp;try rfl)
   go_simp
   refine hK _ _ ?_
   clear hK K
   refine wantedR (v:=tv) (by rfl) (exec_load _ _ ⟨ga,9,none⟩ _ rfl rfl HT.out) (fun K hK=>?_)
   go_simp
   refine hK _ _ ?_
   clear hK K
   refine wantedC (by rfl) (fun K hK=>?_)
   refine wp_enter 75 #[tv] (by go_simp) ?_
   refine (H2.out _).mono ?_
   rintro e w2 ⟨rfl,hb2⟩
   refine ⟨_,rfl,?_⟩
   go_simp
   refine hK _ _ ?_
   clear hK K
   have HB2:=jX (HB1.out.trans (Below.mono hb2 HB1.out.size))
   have B2ga:=jX ((hb2.block ga (lt_of_heap Bga.out)).trans Bga.out)
   clear Bga
   have Bga:=B2ga
   clear B2ga
   clear hb2 HT
   go_wp2_with fail
   have HX:Hid (∀ m:KW w2,(loadVar 32 ⟨ga,0,none⟩).run Tryz.prog (Wk w2 m) = .ok (.agg C) (Wk w2 m)):=fun m=>HLi.out _ ga (m.k.heap Bga.out (by simp))
   have Q3:Hid (∀ m:KW w2,Calls Tryz.prog 77 #[.agg C] (Wk w2 m) fun e w'=>e = .returned (.agg BF)∧∃ m,w'=Wk w2 m):=fun m=>qk m (H3.out _)
   have Q4:Hid (∀ m:KW w2,Calls Tryz.prog 78 #[.agg C] (Wk w2 m) fun e w'=>e = .returned (.agg BL)∧∃ m,w'=Wk w2 m):=fun m=>qk m (H4.out _)
   have Q5:Hid (∀ m:KW w2,Calls Tryz.prog 76 #[.agg BF,.agg BL] (Wk w2 m) fun e w'=>e = .returned (.int .i64 n)∧∃ m,w'=Wk w2 m):=fun m=>qk m (H5.out _)
   refine wp_region_keep (by kernel_rfl) (by kernel_rfl) ?_
   repeat (first
    | go_big_quiet_skip
    | (go_big_quiet_want;first
     | (refine quiet_load _ _ _ (.agg C) rfl rfl (by rintro _ ⟨m,rfl⟩;exact HX.out m) ?_;go_simp;go_big_quiet_on)
     | (go_big_quiet_op;first|go_big_quiet_on|go_big_quiet_call (first
      | (go_at_call 77;with_reducible exact (Q3).out _)|(go_at_call 78;with_reducible exact (Q4).out _)|(go_at_call 76;with_reducible exact (Q5).out _)))))
   refine wpQuiet_nil ?_
   rintro w3 ⟨⟨_,hk_w3⟩,rfl⟩
   have HB3:=jX (HB2.out.trans (Below.mono hk_w3.below0 HB2.out.size))
   clear hk_w3
   go_wp2_with fail
   go_ret
   exact ⟨rfl,HB3.out⟩
  rw [decide_eq_false ht,show errF false = .int .i64 5 from rfl] at H2
  have he:eI r=5:=eI_no (fun h=>ht h.2)
  rw [he,hv]
  clear hf ht hs he hv
  generalize r.f.v=fv at *
  generalize r.t.v=tv at *
  generalize r.C=C at *
  go_enter Tryz.func17,Tryz.ntmps17
  go_upto_region 1 with (fail)
  obtain⟨W,ga,hW,ega,Bga,hga,hgW,HkW⟩:=al1h w (.cells C 32)
  rw [← hW]
  try rw [ega]
  clear hW ega
  have HF:=jX ((HLd.out W ga Bga.out).1)
  have HT:=jX ((HLd.out W ga Bga.out).2)
  refine wp_region_lit ?_
  refine' wpList_R (v:=_) (by rfl) (?ha2) (fun K hK=>?ka2)
  case ha2=>(go_simp;try rfl)
  go_simp
  refine hK _ _ ?_
  clear hK K
  refine wpList_R (v:=fv) (by rfl) (exec_load _ _ ⟨ga,0,none⟩ _ rfl rfl HF.out) (fun K hK=>?_)
  go_simp
  refine hK _ _ ?_
  clear hK K
  refine wpList_plain (by rfl) (fun K hK=>?_)
  refine wp_enter 75 #[fv] (by go_simp) ?_
  refine (H1.out _).mono ?_
  rintro e w1 ⟨rfl,hb1⟩
  refine ⟨_,rfl,?_⟩
  go_simp
  refine hK _ _ ?_
  clear hK K
  have HB1:=jX (HkW.out.below0.trans (Below.mono hb1 HkW.out.size))
  have B2ga:=jX ((hb1.block ga (lt_of_heap Bga.out)).trans Bga.out)
  clear Bga
  have Bga:=B2ga
  clear B2ga
  have HT:=jX ((HLd.out w1 ga Bga.out).2)
  clear hb1 HF
  refine' wpList_R (v:=_) (by rfl) (?hb2) (fun K hK=>?kb2)
  case hb2=>(go_simp;try rfl)
  go_simp
  refine hK _ _ ?_
  clear hK K
  refine' wpList_R (v:=_) (by rfl) (?hc2) (fun K hK=>?kc2)
  case hc2=>(go_simp;try rfl)
  go_simp
  refine hK _ _ ?_
  clear hK K
  refine' wantedR (v:=_) (by rfl) (?hd2) (fun K hK=>?kd2)
  case hd2=>(go_simp;try rfl)
  go_simp
  refine hK _ _ ?_
  clear hK K
  refine wantedR (v:=tv) (by rfl) (exec_load _ _ ⟨ga,9,none⟩ _ rfl rfl HT.out) (fun K hK=>?_)
  go_simp
  refine hK _ _ ?_
  clear hK K
  refine wantedC (by rfl) (fun K hK=>?_)
  refine wp_enter 75 #[tv] (by go_simp) ?_
  refine (H2.out _).mono ?_
  rintro e w2 ⟨rfl,hb2⟩
  refine ⟨_,rfl,?_⟩
  go_simp
  refine hK _ _ ?_
  clear hK K
  have HB2:=jX (HB1.out.trans (Below.mono hb2 HB1.out.size))
  have B2ga:=jX ((hb2.block ga (lt_of_heap Bga.out)).trans Bga.out)
  clear Bga
  have Bga:=B2ga
  clear B2ga
  clear hb2 HT
  go_wp2_with fail
  go_ret
  exact ⟨rfl,HB2.out⟩
 rw [decide_eq_false hf,show errF false = .int .i64 5 from rfl] at H1
 have he:eI r=5:=eI_no (fun h=>hf h.1)
 rw [he,hv]
 clear hf hs he hv H2
 generalize r.f.v=fv at *
 generalize r.t.v=tv at *
 generalize r.C=C at *
 go_enter Tryz.func17,Tryz.ntmps17
 go_upto_region 1 with (fail)
 obtain⟨W,ga,hW,ega,Bga,hga,hgW,HkW⟩:=al1h w (.cells C 32)
 rw [← hW]
 try rw [ega]
 clear hW ega
 have HF:=jX ((HLd.out W ga Bga.out).1)
 have HT:=jX ((HLd.out W ga Bga.out).2)
 refine wp_region_lit ?_
 refine' wpList_R (v:=_) (by rfl) (?ha3) (fun K hK=>?ka3)
 case ha3=>(go_simp;try rfl)
 go_simp
 refine hK _ _ ?_
 clear hK K
 refine wpList_R (v:=fv) (by rfl) (exec_load _ _ ⟨ga,0,none⟩ _ rfl rfl HF.out) (fun K hK=>?_)
 go_simp
 refine hK _ _ ?_
 clear hK K
 refine wpList_plain (by rfl) (fun K hK=>?_)
 refine wp_enter 75 #[fv] (by go_simp) ?_
 refine (H1.out _).mono ?_
 rintro e w1 ⟨rfl,hb1⟩
 refine ⟨_,rfl,?_⟩
 go_simp
 refine hK _ _ ?_
 clear hK K
 have HB1:=jX (HkW.out.below0.trans (Below.mono hb1 HkW.out.size))
 have B2ga:=jX ((hb1.block ga (lt_of_heap Bga.out)).trans Bga.out)
 clear Bga
 have Bga:=B2ga
 clear B2ga
 have HT:=jX ((HLd.out w1 ga Bga.out).2)
 clear hb1 HF
 go_wp2_with fail
 go_ret
 exact ⟨rfl,HB1.out⟩
end
end Go.Proofs.YtpgffjjpiafhpaaGreatDoor
