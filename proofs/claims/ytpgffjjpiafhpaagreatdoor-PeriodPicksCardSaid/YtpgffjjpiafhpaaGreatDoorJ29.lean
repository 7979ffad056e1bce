/- Parts of a proof: Uh Ui Vf Vg Vh Vb Mb Fa Fb Wa. -/
import Derived.IntWalk
import Derived.Lib.SliceRun
import Derived.Test.YtpgffjjpiafhpaaGreatDoorJ28
import Derived.Test.YtpgffjjpiafhpaaGreatDoorJ23
import Derived.Test.YtpgffjjpiafhpaaGreatDoorJ25
import Derived.Test.YtpgffjjpiafhpaaGreatDoorJ01
import Derived.Test.YtpgffjjpiafhpaaGreatDoorJ22
set_option linter.unusedVariables false
set_option linter.unusedSimpArgs false
set_option linter.unusedSectionVars false
set_option maxRecDepth 100000
set_option maxHeartbeats 8000000
namespace Go.Proofs.YtpgffjjpiafhpaaGreatDoor
open Go.RowKit Tryz
section
open Classical
def MI (w0 w:World) (L:List (Value × List (Iv K))):Prop:=Keep [] w0 w∧∀ p∈L,IvR w p.1 p.2
theorem MI.start (w:World):MI w w []:=⟨Keep.refl _ _,by simp⟩
theorem MI.add {w0 w w':World} {L:List (Value × List (Iv K))} (h:MI w0 w L) {v:Value} {l:List (Iv K)} (hk:Keep [] w w') (hv:IvR w' v l):MI w0 w' ((v,l) :: L) :=
 ⟨h.1.tz hk,fun p hp=>by
  rcases List.mem_cons.1 hp with rfl|hp
  ·exact hv
  exact (h.2 p hp).later hk⟩
theorem MI.move {w0 w w':World} {L:List (Value × List (Iv K))} (h:MI w0 w L) (hk:Keep [] w w'):MI w0 w' L:=⟨h.1.tz hk,fun p hp=>(h.2 p hp).later hk⟩
theorem MI.get {w0 w:World} {L:List (Value × List (Iv K))} (h:MI w0 w L) (v:Value) (l:List (Iv K)) (hm:(v,l)∈L):IvR w v l:=h.2 (v,l) hm
theorem ydZ {l m:List (Iv K)} (he:l=m) (w:World) (sv tv:Value) (hr:IvR w sv l) (hs:IvR w tv m) (h9:l.length≤1000000000) :
  Calls prog 21 #[sv,tv] w fun e w'=>e = .returned (.bool true)∧Keep [] w w':=by
 have:=equal_c l m w sv tv hr hs h9 (by rw [← he];exact h9);rw [decide_eq_true he] at this;exact this
theorem ydK (x:K) (w:World):Calls prog 26 #[kv x] w fun e w'=>e = .returned (.bool true)∧Keep [] w w':=by
 have hf:=x.2.2;have hd:∀ n:Nat,FitQ 100000 n→True:=fun _ _=>trivial
 have hs:(RawR.of x.1).sz 1000000:=by
  have h1:∀ n:Nat,Fit 100000 (n:Int)→(dnS n).size≤1000000:=fun n h=>by
   unfold dnS;split
   ·exact Nat.zero_le _
   unfold Fit mgS at h;rw [Int.natAbs_natCast] at h;exact Nat.le_trans h (by decide)
  refine ⟨?_,h1 _ hf.1.2,?_,h1 _ hf.2.2⟩
  ·exact Nat.le_trans hf.1.1 (by decide)
  exact Nat.le_trans hf.2.1 (by decide)
 have:=isreal_c (RawR.of x.1) hs w;have hK:(RawR.of x.1).isK:=⟨x.1,x.2.1,rfl⟩;rw [decide_eq_true hK] at this;exact this
theorem ycV (x y:K):prog.built 32 [(0,kv x),(1,kv y)]=some (iC ⟨⟨x,false⟩,⟨y,true⟩⟩):=yis x y
theorem ycz (x:K) (w:World):Calls prog 28 #[kv x] w fun e w'=>∃ v,e = .returned v∧IvR w' v [⟨⟨x,false⟩,⟨x,true⟩⟩]∧Keep [] w w':=by
 have HB:=jX (yis x x);show Calls prog 28 #[.agg (kC x)] w _
 go_enter func28,ntmps28
 go_upto_region 1 with (fail)
 obtain⟨W,ga,hW,ega,Bga,hga,hgW,HkW⟩:=al1h w (.cells (kC x) 30);rw [← hW];try rw [ega]
 clear hW ega;refine wp_region_lit ?_;refine wX (v:=kv x) ⟨ga,0,none⟩ ((yba _ _ _ _ (ygl Bga.out))) ?_;go_simp;refine wX (v:=kv x) ⟨ga,0,none⟩ ((yba _ _ _ _ (ygl Bga.out))) ?_;go_simp;refine wU (v:=iv ⟨⟨x,false⟩,⟨x,true⟩⟩) (yam _ #[(0,.tmp 3),(1,.tmp 4)] #[(0,kv x),(1,kv x)] _ rfl (by simp only [List.map_toArray,List.map_cons,List.map_nil];rfl) HB.out) ?_;go_simp;refine fO ?_;obtain⟨ub,gy,e3,e4,hz1,hkx,hx⟩:=IvR.single ⟨⟨x,false⟩,⟨x,true⟩⟩ W;refine yaU (v:=.slice (some ⟨W.heap.size,0,none⟩) 1 1) (by rfl) (ybb 22 1 #[(0,.tmp 5)] #[(0,iv ⟨⟨x,false⟩,⟨x,true⟩⟩)] _ rfl (by simp only [List.map_toArray,List.map_cons,List.map_nil];rfl) (ybu _ _)) (fun K hK=>?_);rw [e3,e4];clear e3;go_simp;go_step
 have Hx:=jX hx;have Hk:=jX (HkW.out.tz hkx);clear hx hkx;go_wp2_with fail;go_ret
 exact ⟨_,rfl,Hx.out,Hk.out⟩
end
section
open Classical
theorem iv_b013r (f1 f4 f7 t1 t4 t7:Bool) (f2 f3 f5 f6 t2 t3 t5 t6:ByteArray):prog.built 32 [(0,.agg #[.bool f1,.string f2,.bool false,.string f3,.bool f4,.string f5,.bool false,.string f6,.bool f7]),(1,.agg #[.bool t1,.string t2,.bool false,.string t3,.bool t4,.string t5,.bool false,.string t6,.bool t7]),(3,.bool true)]=some #[.bool f1,.string f2,.bool false,.string f3,.bool f4,.string f5,.bool false,.string f6,.bool f7,.bool t1,.string t2,.bool false,.string t3,.bool t4,.string t5,.bool false,.string t6,.bool t7,.bool false,.bool true]:=by kernel_rfl
theorem iv_b013 (x y:K):prog.built 32 [(0,kv x),(1,kv y),(3,.bool true)]=some (iC ⟨⟨x,false⟩,⟨y,false⟩⟩):=iv_b013r _ _ _ _ _ _ _ _ _ _ _ _ _ _
theorem iv_b012r (f1 f4 f7 t1 t4 t7:Bool) (f2 f3 f5 f6 t2 t3 t5 t6:ByteArray):prog.built 32 [(0,.agg #[.bool f1,.string f2,.bool false,.string f3,.bool f4,.string f5,.bool false,.string f6,.bool f7]),(1,.agg #[.bool t1,.string t2,.bool false,.string t3,.bool t4,.string t5,.bool false,.string t6,.bool t7]),(2,.bool true)]=some #[.bool f1,.string f2,.bool false,.string f3,.bool f4,.string f5,.bool false,.string f6,.bool f7,.bool t1,.string t2,.bool false,.string t3,.bool t4,.string t5,.bool false,.string t6,.bool t7,.bool true,.bool false]:=by kernel_rfl
theorem iv_b012 (x y:K):prog.built 32 [(0,kv x),(1,kv y),(2,.bool true)]=some (iC ⟨⟨x,true⟩,⟨y,true⟩⟩):=iv_b012r _ _ _ _ _ _ _ _ _ _ _ _ _ _
theorem yhX (i:Iv K) (w:World):(binOp .eql 32 (iv i) (iv i)).run prog w = .ok (.bool true) w:=by rw [eqlI_run];simp
theorem yec (i:Iv K) (x:Bd K):hasL [i] x=i.has x:=by rw [yaz,yfR,Bool.or_false]
theorem known_u {k0 k2 k3:K} (h1:k0<k2) (h2:k2<k3):ydn 1 [⟨⟨k0,false⟩,⟨k2,false⟩⟩] [⟨⟨k2,false⟩,⟨k3,true⟩⟩]=[⟨⟨k0,false⟩,⟨k3,true⟩⟩]:=by
 refine yfP ?_ (fun x=>?_)
 ·refine ⟨?_,trivial⟩
  rw [Bd.lt_def];exact .inl (by dsimp only;grind)
 rw [yec,yec,yec];unfold decV;rw [if_pos rfl,Bool.eq_iff_iff,Bool.or_eq_true,Iv.hI,Iv.hI,Iv.hI];have a1:(⟨k0,false⟩:Bd K)<⟨k2,false⟩:=Bd.lt_def.2 (.inl h1);have a2:(⟨k2,false⟩:Bd K)<⟨k3,true⟩:=Bd.lt_def.2 (.inl h2);dsimp only;grind
theorem known_m {k0 k1 k3:K} (h1:k0<k1) (h2:k1<k3):ydn 3 [⟨⟨k0,false⟩,⟨k3,true⟩⟩] [⟨⟨k1,false⟩,⟨k1,true⟩⟩]=[⟨⟨k0,false⟩,⟨k1,false⟩⟩,⟨⟨k1,true⟩,⟨k3,true⟩⟩]:=by
 have a1:(⟨k0,false⟩:Bd K)<⟨k1,false⟩:=Bd.lt_def.2 (.inl h1);have a2:(⟨k1,false⟩:Bd K)<⟨k1,true⟩:=Bd.lt_def.2 (.inr ⟨rfl,rfl,rfl⟩);have a3:(⟨k1,true⟩:Bd K)<⟨k3,true⟩:=Bd.lt_def.2 (.inl h2);refine yfP ?_ (fun x=>?_)
 ·exact ⟨a1,a2,a3,trivial⟩
 rw [yec,yec,yaz,yec];unfold decV;rw [if_neg (by decide),if_neg (by decide),Bool.eq_iff_iff,Bool.or_eq_true,Bool.and_eq_true,Bool.not_eq_true',← Bool.not_eq_true,Iv.hI,Iv.hI,Iv.hI,Iv.hI];dsimp only;grind
theorem known_c0 (k0 k1 k2 k3:K) (h1:k0<k1) (h2:k1<k2) (h3:k2<k3) (c0:∀ w,Calls prog 72 #[.int .i64 0] w fun e w'=>e = .returned (kv k0)∧Keep [] w w') (c1:∀ w,Calls prog 72 #[.int .i64 1] w fun e w'=>e = .returned (kv k1)∧Keep [] w w')
  (c2:∀ w,Calls prog 72 #[.int .i64 2] w fun e w'=>e = .returned (kv k2)∧Keep [] w w') (c3:∀ w,Calls prog 72 #[.int .i64 3] w fun e w'=>e = .returned (kv k3)∧Keep [] w w') (w:World) :
  Calls prog 15 #[] w fun e w'=>e = .returned (.bool true)∧Keep [] w w':=by
 have C0:=jX c0;have C1:=jX c1;have C2:=jX c2;have C3:=jX c3;have hv1:(⟨⟨k0,false⟩,⟨k2,false⟩⟩:Iv K).f<(⟨⟨k0,false⟩,⟨k2,false⟩⟩:Iv K).l:=Bd.lt_def.2 (.inl (by dsimp only;grind));have hv2:(⟨⟨k2,false⟩,⟨k3,true⟩⟩:Iv K).f<(⟨⟨k2,false⟩,⟨k3,true⟩⟩:Iv K).l:=Bd.lt_def.2 (.inl (by dsimp only;grind));have hv3:(⟨⟨k0,false⟩,⟨k3,true⟩⟩:Iv K).f<(⟨⟨k0,false⟩,⟨k3,true⟩⟩:Iv K).l:=Bd.lt_def.2 (.inl (by dsimp only;grind));have hv4:(⟨⟨k1,false⟩,⟨k1,true⟩⟩:Iv K).f<(⟨⟨k1,false⟩,⟨k1,true⟩⟩:Iv K).l:=Bd.lt_def.2 (.inr ⟨rfl,rfl,rfl⟩);have HU:=jX (fun w sv tv hr hs=>Union_p [⟨⟨k0,false⟩,⟨k2,false⟩⟩] [⟨⟨k2,false⟩,⟨k3,true⟩⟩] (fun i hi=>by simp at hi;subst hi;exact hv1) (fun i hi=>by simp at hi;subst hi;exact hv2) w sv tv hr hs (by simp) (by simp));have HM:=jX (fun w sv tv hr hs=>Minus_p [⟨⟨k0,false⟩,⟨k3,true⟩⟩] [⟨⟨k1,false⟩,⟨k1,true⟩⟩] (fun i hi=>by simp at hi;subst hi;exact hv3) (fun i hi=>by simp at hi;subst hi;exact hv4) w sv tv hr hs (by simp) (by simp));rw [known_u (by grind) h3] at HU;rw [known_m h1 (by grind)] at HM;have HI:=jX (ycz k1);clear c0 c1 c2 c3 h1 h2 h3 hv1 hv2 hv3 hv4;go_enter func15,ntmps15
 go_upto_region 1 with (fail)
 refine wp_region_lit ?_;refine wpList_plain (by rfl) (fun K hK=>?_);refine yag 72 #[.int .i64 0] (by go_simp) ?_;refine (C0.out _).mono ?_;rintro e w1 ⟨rfl,hk_w1⟩;refine ⟨_,rfl,?_⟩;go_simp;go_step
 refine wpList_plain (by rfl) (fun K hK=>?_);refine yag 72 #[.int .i64 2] (by go_simp) ?_;refine (C2.out _).mono ?_;rintro e w2 ⟨rfl,hk_w2⟩;refine ⟨_,rfl,?_⟩;go_simp;go_step
 refine wU (v:=iv ⟨⟨k0,false⟩,⟨k2,false⟩⟩) (yam _ #[(0,.tmp 5),(1,.tmp 6),(3,.const (.bool true))] #[(0,kv k0),(1,kv k2),(3,.bool true)] _ rfl (by simp only [List.map_toArray,List.map_cons,List.map_nil];rfl) (iv_b013 k0 k2)) ?_;go_simp;refine fO ?_;obtain⟨w3,ga,e3,e4,_,hk3,hx3⟩:=IvR.single ⟨⟨k0,false⟩,⟨k2,false⟩⟩ w2;refine yaU (v:=.slice (some ⟨(w2).heap.size,0,none⟩) 1 1) (by rfl) (ybb 22 1 #[(0,.tmp 7)] #[(0,iv ⟨⟨k0,false⟩,⟨k2,false⟩⟩)] _ rfl (by simp only [List.map_toArray,List.map_cons,List.map_nil];rfl) (ybu _ _)) (fun K hK=>?_);rw [e3,e4];clear e3 e4;go_simp;go_step
 have HMI:=jX ((MI.start w).add ((hk_w1.tz hk_w2).tz hk3) hx3);clear hk_w1 hk_w2 hk3 hx3;go_upto_region 2 with (fail)
 refine wp_region_lit ?_;refine wpList_plain (by rfl) (fun K hK=>?_);refine yag 72 #[.int .i64 2] (by go_simp) ?_;refine (C2.out _).mono ?_;rintro e w4 ⟨rfl,hk_w4⟩;refine ⟨_,rfl,?_⟩;go_simp;go_step
 refine wpList_plain (by rfl) (fun K hK=>?_);refine yag 72 #[.int .i64 3] (by go_simp) ?_;refine (C3.out _).mono ?_;rintro e w5 ⟨rfl,hk_w5⟩;refine ⟨_,rfl,?_⟩;go_simp;go_step
 refine wU (v:=iv ⟨⟨k2,false⟩,⟨k3,true⟩⟩) (yam _ #[(0,.tmp 9),(1,.tmp 10)] #[(0,kv k2),(1,kv k3)] _ rfl (by simp only [List.map_toArray,List.map_cons,List.map_nil];rfl) (yis k2 k3)) ?_;go_simp;refine fO ?_;obtain⟨w6,gb,e3,e4,_,hk6,hx6⟩:=IvR.single ⟨⟨k2,false⟩,⟨k3,true⟩⟩ w5;refine yaU (v:=.slice (some ⟨(w5).heap.size,0,none⟩) 1 1) (by rfl) (ybb 22 1 #[(0,.tmp 11)] #[(0,iv ⟨⟨k2,false⟩,⟨k3,true⟩⟩)] _ rfl (by simp only [List.map_toArray,List.map_cons,List.map_nil];rfl) (ybu _ _)) (fun K hK=>?_);rw [e3,e4];clear e3 e4;go_simp;go_step
 have HMI:=jX (HMI.out.add ((hk_w4.tz hk_w5).tz hk6) hx6);clear hk_w4 hk_w5 hk6 hx6;go_wp2_with fail;refine (HU.out _ _ _ (HMI.out.get _ _ (by simp)) (HMI.out.get _ _ (by simp))).mono ?_;rintro e w7 ⟨v7,rfl,hv7,hk7⟩;dsimp only;have HMI:=jX (HMI.out.add hk7 hv7);obtain⟨ou,cu,rfl,_⟩:=hv7.form;clear hv7 hk7;go_upto_region 4 with (fail)
 refine wp_region_lit ?_;refine wV ?_;go_simp;refine wpList_plain (by rfl) (fun K hK=>?_);refine yag 72 #[.int .i64 1] (by go_simp) ?_;refine (C1.out _).mono ?_;rintro e w8 ⟨rfl,hk_w8⟩;refine ⟨_,rfl,?_⟩;go_simp;go_step
 refine wpList_plain (by rfl) (fun K hK=>?_);refine yag 28 #[kv k1] (by go_simp) ?_;refine (HI.out _).mono ?_;rintro e w9 ⟨v9,rfl,hv9,hk9⟩;refine ⟨_,rfl,?_⟩;go_simp;go_step
 have HMI:=jX (HMI.out.add (hk_w8.tz hk9) hv9);clear hk_w8 hk9 hv9;refine wpList_plain (by rfl) (fun K hK=>?_);refine yag 74 #[.slice ou 1 cu,v9] (by go_simp) ?_;refine (HM.out _ _ _ (HMI.out.get _ _ (by simp)) (HMI.out.get v9 _ (by simp))).mono ?_;rintro e w10 ⟨v10,rfl,hv10,hk10⟩;refine ⟨_,rfl,?_⟩;go_simp;go_step
 have HMI:=jX (HMI.out.add hk10 hv10);obtain⟨om,cm,rfl,_⟩:=hv10.form;clear hv10 hk10 HU HM HI;obtain⟨gu,pu,rfl,hgu,hatu⟩:=IvR.elem (HMI.out.get (.slice ou 1 cu) [⟨⟨k0,false⟩,⟨k3,true⟩⟩] (by simp)) 0 (by simp);obtain⟨gm,pm,rfl,hgm,hat0⟩:=IvR.elem (HMI.out.get (.slice om 2 cm) [⟨⟨k0,false⟩,⟨k1,false⟩⟩,⟨⟨k1,true⟩,⟨k3,true⟩⟩] (by simp)) 0 (by simp);obtain⟨gm',pm',hgm',_,hat1⟩:=IvR.elem (HMI.out.get (.slice (some ⟨gm,pm,none⟩) 2 cm) [⟨⟨k0,false⟩,⟨k1,false⟩⟩,⟨⟨k1,true⟩,⟨k3,true⟩⟩] (by simp)) 1 (by simp);injection hgm' with hgm';injection hgm' with q1 q2;subst q1 q2;have HLu:=jX (hatu.ld hgu);have HL0:=jX (hat0.ld hgm);have HL1:=jX (hat1.ld hgm);simp only [Nat.zero_mul,Nat.one_mul,Nat.add_zero,List.getElem_cons_zero,List.getElem_cons_succ] at HLu HL0 HL1;have E1:=jX (yhX ⟨⟨k0,false⟩,⟨k3,true⟩⟩);have E2:=jX (yhX ⟨⟨k0,false⟩,⟨k1,false⟩⟩);have E3:=jX (yhX ⟨⟨k1,true⟩,⟨k3,true⟩⟩);have B1:=jX (yis k0 k3);have B2:=jX (iv_b013 k0 k1);have B3:=jX (iv_b012 k1 k3);have HKz:=jX HMI.out.1;clear hatu hat0 hat1 HMI;have Q0:Hid (∀ m:KW w10,Calls prog 72 #[.int .i64 0] (Wk w10 m) fun e w'=>e = .returned (kv k0)∧∃ m,w'=Wk w10 m):=fun m=>qk m (C0.out _);have Q1:Hid (∀ m:KW w10,Calls prog 72 #[.int .i64 1] (Wk w10 m) fun e w'=>e = .returned (kv k1)∧∃ m,w'=Wk w10 m):=fun m=>qk m (C1.out _);have Q3:Hid (∀ m:KW w10,Calls prog 72 #[.int .i64 3] (Wk w10 m) fun e w'=>e = .returned (kv k3)∧∃ m,w'=Wk w10 m):=fun m=>qk m (C3.out _);clear C0 C1 C2 C3;unfold kv iv at *;generalize kC k0=K0 at *;generalize kC k1=K1 at *;generalize kC k2=K2 at *;generalize kC k3=K3 at *;generalize iC ⟨⟨k0,false⟩,⟨k3,true⟩⟩=I1 at *;generalize iC ⟨⟨k0,false⟩,⟨k1,false⟩⟩=I2 at *;generalize iC ⟨⟨k1,true⟩,⟨k3,true⟩⟩=I3 at *;go_upto_region 5 with (fail)
 refine yad (by kernel_rfl) (by kernel_rfl) ?_
 repeat (first
  | go_big_quiet_skip
  | (go_big_quiet_want;first
   | (refine yaH _ _ _ (.agg I1) rfl rfl (by rintro _ ⟨m,rfl⟩;exact HLu.out m) ?_;go_simp;go_big_quiet_on)|(refine yaH _ _ _ (.agg I2) rfl rfl (by rintro _ ⟨m,rfl⟩;exact HL0.out m) ?_;go_simp;go_big_quiet_on)|(refine yaH _ _ _ (.agg I3) rfl rfl (by rintro _ ⟨m,rfl⟩;exact HL1.out m) ?_;go_simp;go_big_quiet_on)|(refine ybX _ _ #[(0,.agg K0),(1,.agg K3)] (I1) rfl (by simp only [List.map_toArray,List.map_cons,List.map_nil];rfl) B1.out ?_;go_simp;go_big_quiet_on)|(refine ybX _ _ #[(0,.agg K0),(1,.agg K1),(3,.bool true)] (I2) rfl (by simp only [List.map_toArray,List.map_cons,List.map_nil];rfl) B2.out ?_;go_simp;go_big_quiet_on)|(refine ybX _ _ #[(0,.agg K1),(1,.agg K3),(2,.bool true)] (I3) rfl (by simp only [List.map_toArray,List.map_cons,List.map_nil];rfl) B3.out ?_;go_simp;go_big_quiet_on)|(refine ycU _ _ _ _ _ _ _ (.bool true) rfl rfl rfl eqI_g (by intro w;exact E1.out w) ?_;go_simp;go_big_quiet_on)|(refine ycU _ _ _ _ _ _ _ (.bool true) rfl rfl rfl eqI_g (by intro w;exact E2.out w) ?_;go_simp;go_big_quiet_on)|(refine ycU _ _ _ _ _ _ _ (.bool true) rfl rfl rfl eqI_g (by intro w;exact E3.out w) ?_;go_simp;go_big_quiet_on)
   | (go_big_quiet_op;first|go_big_quiet_on|go_big_quiet_call (first
    | (go_at_call 72;with_reducible exact (Q0).out _)|(go_at_call 72;with_reducible exact (Q1).out _)|(go_at_call 72;with_reducible exact (Q3).out _)))))
 refine wpQuiet_nil ?_;rintro wz ⟨⟨_,hk_wz⟩,rfl⟩;have HkZ:=jX (HKz.out.tz hk_wz);clear hk_wz;go_wp2_with fail;go_ret
 exact ⟨rfl,HkZ.out⟩
theorem yfT (w:World):Calls prog 15 #[] w fun e w'=>e = .returned (.bool true)∧Keep [] w w' :=
 known_c0 (kN 0 (by decide)) (kN 1 (by decide)) (kN 2 (by decide)) (kN 3 (by decide)) (kN_lt.2 (by decide)) (kN_lt.2 (by decide)) (kN_lt.2 (by decide)) (fun w=>yez 0 (by decide) w) (fun w=>yez 1 (by decide) w) (fun w=>yez 2 (by decide) w) (fun w=>yez 3 (by decide) w) w
end
theorem Rat_c (a:FrA) (w:World):Calls prog 24 #[a.v] w fun e w'=>e = .returned (rv a.q)∧Keep [] w w':=by
 have H:=jX (rat_c a);unfold FrA.v at *;generalize a.q=q at *;generalize a.num=n at *;generalize a.den=d0 at *;generalize a.up=u at *;generalize a.down=v at *;unfold rv at *;go_enter func24,ntmps24
 go_upto_region 1 with (fail)
 obtain⟨W,ga,gb,hW,ega,egb,Bga,Bgb,hga,hgb,hgW,HkW⟩:=al2h w (.cells #[.int .i64 n,.int .i64 d0,.int .u8 u,.int .u8 v] 42) (.cells #[.bool false,.string ⟨#[]⟩,.bool false,.string ⟨#[]⟩] 28);rw [← hW];try rw [egb]
 try rw [ega]
 clear hW ega egb;have pga:=yab Bga.out;go_wp2_with fail;refine (H.out _).mono ?_;rintro e w9 ⟨rfl,hk9⟩;dsimp only;have HK9:=jX (HkW.out.tz hk9);have Bgb:=jX (hk9.heap Bgb.out (by simp));clear hk9 pga;have pgb:=yab Bgb.out;have fgb:=yae Bgb.out;have lgb:=yaa Bgb.out;go_wp2_with fail;obtain⟨w10,e10,b10,k10⟩:=st4 (x:=.bool (sgB q.num)) (y:=.string (mgS q.num)) (z:=.bool false) (u:=.string (dnS q.den)) Bgb.out;rw [← e10];clear e10 pgb fgb lgb;have pgb:=yab b10;refine bodyPost_ret (v:=.agg #[.bool (sgB q.num),.string (mgS q.num),.bool false,.string (dnS q.den)]) ?_ rfl ⟨rfl,HK9.out.trans k10 (by simp;omega)⟩;rw [yac rfl];go_simp
section
open Classical
def mvQ (x:Qn) (q:Rat):Qn:=⟨x.p+q,x.r,x.neg⟩
theorem FrA.fq (a:FrA):FitQ 24 a.q:=by
 have hn9:a.num.natAbs<256 ^ 8:=by have:=a.hn;omega
 have hd9:a.d.natAbs<256 ^ 8:=by have:=a.hd;unfold FrA.d;split<;>omega
 have hd0:a.d≠0:=by unfold FrA.d;split<;>omega
 have hN:Fit 24 (a.num*256 ^ (a.up % 9)):=Nat.le_trans (yfH hn9) (by omega);have hD:Fit 24 (a.d*256 ^ (a.down % 9)):=Nat.le_trans (yfH hd9) (by omega);unfold FrA.q;have hD0:a.d*256 ^ (a.down % 9)≠0:=fun h=>(Int.mul_eq_zero.1 h).elim hd0 (fun h=>absurd h (by have:=Int.pow_pos (n:=(256:Int)) (m:=a.down % 9) (by decide);omega));generalize a.num*256 ^ (a.up % 9)=N at *;generalize a.d*256 ^ (a.down % 9)=D at *;rcases Int.lt_trichotomy D 0 with h|h|h
 ·rw [← Rat.neg_divInt_neg]
  refine ybl (Fit_iff.2 ?_) (Fit_iff.2 ?_) (by omega)
  ·rw [Int.natAbs_neg];exact Fit_iff.1 hN
  rw [Int.natAbs_neg];exact Fit_iff.1 hD
 ·exact absurd h hD0
 exact ybl hN hD h
def rcells (q:Rat):List Value:=[.bool (sgB q.num),.string (mgS q.num),.bool false,.string (dnS q.den)]
def rC (q:Rat):Array Value:=(rcells q).toArray
theorem yap (q:Rat):rv q = .agg (rC q):=rfl
theorem infoRat:∃ ie,prog.info? 28=some ie∧ie.size=4:=by
 have h:(prog.info? 28).map (·.size)=some 4:=by kernel_rfl
 cases hi:prog.info? 28 with
 | none=>rw [hi] at h;cases h
 | some ie=>rw [hi] at h;exact ⟨ie,rfl,by simpa using h⟩
end
section
open Classical
def Sm (k:Nat) (x:K):Prop:=FitR k x.1
def SmI (k:Nat) (i:Iv K):Prop:=Sm k i.f.pt∧Sm k i.l.pt
theorem Sm.fit {k:Nat} {x:K} {q:Rat} (h:Sm k x) (hq:FitQ 24 q):FitR (k+25) (mvQ x.1 q) :=
 ⟨(FitQ.add h.1 hq).mono (by omega),h.2.mono (by omega)⟩
theorem yee (a:InsA):Sm 3 a.k:=ofQ_fit a.fp a.fr
theorem ydH (s:SpanA):SmI 3 s.i:=by
 unfold SpanA.i;split
 ·exact ⟨yee _,yee _⟩
 split
 ·exact ⟨yee _,yee _⟩
 exact ⟨yee _,yee _⟩
end
section
open Classical
structure MP (S:List K) (w0 w:World) (L:List (Value × List (Iv K))):Prop where
 mi:MI w0 w L
 per:∀ p∈L,Per S p.2
 few:S.length≤1000
section
variable {S:List K} {w0 w w':World} {L:List (Value × List (Iv K))}
theorem MP.start (h:S.length≤1000) (w:World):MP S w w []:=⟨MI.start w,by simp,h⟩
theorem MP.move (h:MP S w0 w L) (hk:Keep [] w w'):MP S w0 w' L:=⟨h.mi.move hk,h.per,h.few⟩
theorem MP.add (h:MP S w0 w L) {v:Value} {l:List (Iv K)} (hk:Keep [] w w') (hv:IvR w' v l) (hp:Per S l):MP S w0 w' ((v,l) :: L) :=
 ⟨h.mi.add hk hv,fun p hp'=>by
  rcases List.mem_cons.1 hp' with rfl|hp'
  ·exact hp
  exact h.per p hp',h.few⟩
theorem MP.keep (h:MP S w0 w L):Keep [] w0 w:=h.mi.1
theorem MP.get (h:MP S w0 w L) {v:Value} {l:List (Iv K)} (hm:(v,l)∈L):IvR w v l:=h.mi.2 _ hm
theorem MP.val (h:MP S w0 w L) {v:Value} {l:List (Iv K)} (hm:(v,l)∈L):∀ i∈l,i.f<i.l:=(h.per _ hm).norm.val
theorem MP.len (h:MP S w0 w L) {v:Value} {l:List (Iv K)} (hm:(v,l)∈L):l.length≤2000:=by have:=(h.per _ hm).len;have:=h.few;dsimp only at *;omega
variable {v u:Value} {a b:List (Iv K)}
end
end
def SubL (T D:List (Iv K)):Prop:=∀ x,hasL T x=true→hasL D x=true
section
variable {D T E U G V P:List (Iv K)}
end
section
open Classical
theorem Sm.mono {k m:Nat} {x:K} (h:Sm k x) (hk:k≤m):Sm m x:=⟨h.1.mono hk,h.2.mono hk⟩
theorem SmI.mono {k m:Nat} {i:Iv K} (h:SmI k i) (hk:k≤m):SmI m i:=⟨h.1.mono hk,h.2.mono hk⟩
section
variable {k:Nat} {q:Rat} (hk:k≤80000) (hq:FitQ 24 q)
include hk hq
end
theorem SubL.refl (a:List (Iv K)):SubL a a:=fun _ h=>h
section
variable {k:Nat} (hk:k≤70000)
include hk
end
end
section
open Classical
structure St where
 d:List (Iv K)
 g:Rat
 a:Rat
 b:Rat
structure StOk (s:Nat→St):Prop where
 norm:∀ i,Norm (s i).d
 pts:∀ i,∃ S:List K,S.length≤16∧(∀ x∈S,Sm 28 x)∧PtsIn S (s i).d
 g:∀ i,FitQ 8 (s i).g
 a:∀ i,FitQ 8 (s i).a
 b:∀ i,FitQ 8 (s i).b
def Few (n:Nat) (l:List (Iv K)):Prop:=∃ S:List K,S.length≤n∧PtsIn S l
theorem Few.mono {n m:Nat} {l:List (Iv K)} (h:Few n l) (hn:n≤m):Few m l:=by
 obtain⟨S,h1,h2⟩:=h;exact ⟨S,by omega,h2⟩
theorem Few.len {n:Nat} {l:List (Iv K)} (h:Few n l) (hl:Norm l):l.length≤2*n:=by
 obtain⟨S,h1,h2⟩:=h;have:=hl.len h2;omega
theorem Few.comb {n m:Nat} {op:Int} {a b:List (Iv K)} (h:Few n a) (k:Few m b):Few (n+m) (ydn op a b):=by
 obtain⟨S,h1,h2⟩:=h;obtain⟨T,k1,k2⟩:=k;exact ⟨S++T,by rw [List.length_append];omega,combK_pts (h2.mono fun x hx=>List.mem_append_left _ hx) (k2.mono fun x hx=>List.mem_append_right _ hx)⟩
theorem Few.norm {n:Nat} {a:List (Iv K)} (h:Few n a):Few n (normK a):=h.comb (m:=0) ⟨[],Nat.le_refl _,PtsIn.nil _⟩
theorem StOk.few {s:Nat→St} (h:StOk s) (i:Nat):Few 16 (s i).d:=by
 obtain⟨S,h1,_,h2⟩:=h.pts i;exact ⟨S,h1,h2⟩
structure PartA where
 a:Nat
 b:Nat
 ha:a<256
 hb:b<256
structure EvA where
 ps:List PartA
 o:Nat
 g:Nat
 w:Nat
 r:Nat
 ho:o<256
 hg:g<256
 hw:w<256
 hr:r<256
end
structure Ht (M L B:Rat) (x:Qn):Prop where
 ok:x.Ok
 m:∃ i:Int,x.p*M=i
 l:∃ j:Int,x.r*L=j
 lo : -B≤x.p
 hi:x.p≤B
 rt:x.r≤B*B
theorem int_far {z:Rat} {i:Int} (h:z=i) (h0:z≠0):1≤z∨z ≤ -1:=by
 subst h;have h1:i≠0:=fun e=>h0 (by rw [e];rfl);rcases Int.lt_or_gt_of_ne h1 with h2|h2
 ·right
  have:(i:Rat)≤((-1:Int):Rat):=Rat.intCast_le_intCast.2 (by omega)
  simpa using this
 left
 have:((1:Int):Rat)≤(i:Rat):=Rat.intCast_le_intCast.2 (by omega)
 simpa using this
def nrm (d r s:Rat):Rat:=(d*d+s-r)*(d*d+s-r)-4*(d*d)*s
theorem nrm_int {d r s M L:Rat} {i j l m n:Int} (hM:M=m) (hL:L=n) (hd:d*M=i) (hr:r*L=j) (hs:s*L=l):nrm d r s*(M*M*(M*M)*(L*L))=((i*i*(i*i)*(n*n)-2*(i*i)*(j+l)*(m*m)*n+(l-j)*(l-j)*(m*m)*(m*m):Int):Rat):=by
 simp only [Rat.intCast_add,Rat.intCast_sub,Rat.intCast_mul];rw [← hd,← hr,← hs,← hM,← hL];unfold nrm;have:((2:Int):Rat)=2:=rfl;rw [this];grind
theorem nrm_mul (d t w u v:Rat) (hu:u=1∨u = -1) (hv:v=1∨v = -1):nrm d (t*t) (w*w)=(d+v*w-u*t)*((d+v*w+u*t)*((d-v*w-u*t)*(d-v*w+u*t))):=by
 unfold nrm;rcases hu with rfl|rfl<;>rcases hv with rfl|rfl<;>grind
theorem yiC {a b A C:Rat} (ha : -A≤a∧a≤A) (hb : -C≤b∧b≤C) : -(A*C)≤a*b∧a*b≤A*C:=by
 obtain⟨a1,a2⟩:=ha;obtain⟨b1,b2⟩:=hb;have x1:=yas (a:=A-a) (b:=C-b) (by grind) (by grind);have x2:=yas (a:=A+a) (b:=C+b) (by grind) (by grind);have x3:=yas (a:=A-a) (b:=C+b) (by grind) (by grind);have x4:=yas (a:=A+a) (b:=C-b) (by grind) (by grind);constructor<;>grind
theorem nrm_near {d r s a b B:Rat} (hB:1≤B) (hd : -(2*B)≤d∧d≤2*B) (hr:0≤a∧a≤r∧r≤B*B) (hs:0≤b∧b≤s∧s≤B*B) :
  nrm d r s-nrm d a b≤10*(B*B)*((r-a)+(s-b)) ∧ -(10*(B*B)*((r-a)+(s-b)))≤nrm d r s-nrm d a b:=by
 have e:nrm d r s-nrm d a b = -(2*((d*d)*((r-a)+(s-b))))+((s-b)-(r-a))*((s-r)+(b-a)):=by unfold nrm;grind
 have d1:=(yiC hd hd).2;have d2:=ycO d;generalize d*d=D at *;generalize he:(r-a)+(s-b)=E at *;have E0:0≤E:=by grind
 have x1:=yas d2 E0;have x2:=yar d1 E0;have x3:=yiC (a:=(s-b)-(r-a)) (b:=(s-r)+(b-a)) (A:=E) (C:=2*(B*B)) (by grind) (by grind);rw [e];constructor<;>grind
theorem sep_core {M L B:Rat} {x y:Qn} (hM:1≤M) (hL:1≤L) (hB:1≤B) (hMi:∃ m:Int,M=m) (hLi:∃ n:Int,L=n) (hx:Ht M L B x) (hy:Ht M L B y) (h:Lt x y) :
  ∃ e0:Rat,0<e0∧∀ e t w,0<e→e≤e0→Near x.r t e→Near y.r w e→1≤128*(B*B*B)*(M*M*(M*M)*(L*L))*((y.p-x.p)+y.u*w-x.u*t):=by
 obtain⟨q,h1,h2⟩:=h;obtain⟨g1,e1,hg1,he1,k1⟩:=Pos.gap hx.ok.nn h1;obtain⟨g2,e2,hg2,he2,k2⟩:=Pos.gap hy.ok.nn h2;obtain⟨m,hm⟩:=hMi;obtain⟨n,hn⟩:=hLi;obtain⟨i1,hi1⟩:=hx.m;obtain⟨i2,hi2⟩:=hy.m;obtain⟨j1,hj1⟩:=hx.l;obtain⟨j2,hj2⟩:=hy.l;have hdi:(y.p-x.p)*M=((i2-i1:Int):Rat):=by rw [Rat.intCast_sub];grind
 have hQi:=nrm_int hm hn hdi hj1 hj2;have hMM:1≤M*M:=by have:=yfp (a:=1) (b:=M) (by grind) hM;grind
 have hLL:1≤L*L:=by have:=yfp (a:=1) (b:=L) (by grind) hL;grind
 have hBB:1≤B*B:=by have:=yfp (a:=1) (b:=B) (by grind) hB;grind
 have hM4:1≤M*M*(M*M):=by have:=yfp (a:=1) (b:=M*M) (by grind) hMM;grind
 have hQ:1≤M*M*(M*M)*(L*L):=by
  have:=yar hM4 (show 0≤L*L by grind)
  grind
 have hB3:1≤B*B*B:=by
  have:=yar hBB (show 0≤B by grind)
  grind
 have hLQ:L≤M*M*(M*M)*(L*L):=by
  have z1:=yar hL (show 0≤L by grind)
  have z2:=yar hM4 (show 0≤L*L by grind)
  grind
 generalize hQ0:M*M*(M*M)*(L*L)=Q at *
 have hdb : -(2*B)≤y.p-x.p∧y.p-x.p≤2*B:=by
  have:=hx.lo;have:=hx.hi;have:=hy.lo;have:=hy.hi;grind
 have hxr:=hx.rt;have hyr:=hy.rt;have hxn:=hx.ok.nn;have hyn:=hy.ok.nn;have hu:=x.u_or;have hv:=y.u_or
 -- how near
 have hden:0<120*(B*B*B)*Q:=by
  have:=yal (a:=B*B*B) (b:=Q) (by grind) (by grind);grind
 obtain⟨e3,he3,he31,he3m⟩:=ycG (d:=1) (m:=120*(B*B*B)*Q) (by grind) hden;obtain⟨e4,he4,h41,h42⟩:=ybR he1 he2;obtain⟨e5,he5,h51,h52⟩:=ybR he3 he4;refine ⟨e5,he5,fun e t w he hle ht hw=>?_⟩;have p1:=k1 e t he (by grind) ht;have p2:=k2 e w he (by grind) hw;have t1:=ht.nn;have t2:=ht.le;have t3:=ht.lt;have w1:=hw.nn;have w2:=hw.le;have w3:=hw.lt;have tB:t≤B:=ycK (by grind) (by grind);have wB:w≤B:=ycK (by grind) (by grind);have hle3:e≤e3:=by grind
 have he1':e≤1:=by grind
 have heQ:e*(120*(B*B*B)*Q)≤1:=by
  have:=yar hle3 (Rat.le_of_lt hden);grind
 have dpos:0<(y.p-x.p)+y.u*w-x.u*t:=by
  clear hQ0 hQi hdi;have:q-x.p + -x.u*t+(y.p-q+y.u*w)=(y.p-x.p)+y.u*w-x.u*t:=by grind
  grind
 -- what the squares lack
 have r1:x.r-t*t≤e*(3*B):=by
  have:=yar (a:=2*t+e) (b:=3*B) (c:=e) (by grind) (by grind);grind
 have s1:y.r-w*w≤e*(3*B):=by
  have:=yar (a:=2*w+e) (b:=3*B) (c:=e) (by grind) (by grind);grind
 have t0:=ycO t;have w0:=ycO w;have hub : -B≤x.u*t∧x.u*t≤B:=by rcases hu with e|e<;>rw [e]<;>constructor<;>grind
 have hvb : -B≤y.u*w∧y.u*w≤B:=by rcases hv with e|e<;>rw [e]<;>constructor<;>grind
 have hmul:=nrm_mul (y.p-x.p) t w x.u y.u hu hv;have hnear:=nrm_near (r:=x.r) (s:=y.r) (a:=t*t) (b:=w*w) hB hdb (by grind) (by grind);have hBB0:0≤B*B:=by grind
 by_cases hz:nrm (y.p-x.p) x.r y.r=0
 ·have hz2 : ((y.p - x.p) * (y.p - x.p) + y.r - x.r) * ((y.p - x.p) * (y.p - x.p) + y.r - x.r) = (2 * (y.p - x.p)) * (2 * (y.p - x.p)) * y.r := by
   unfold nrm at hz;grind
  by_cases hd0:y.p-x.p=0
  ·have hrs : y.r = x.r := by
    rw [hd0] at hz2;have:=ybL (a:=y.r-x.r) (by grind);grind
   by_cases hr0:x.r=0
   ·exfalso
    rw [hr0] at ht;rw [hrs,hr0] at hw;rw [ht.zero,hw.zero] at dpos;grind
   have hne:¬ x.u=y.u:=fun e=>by
    have hxy:=Qn.eq_of hx.ok hy.ok (by grind) hrs.symm (fun _=>e);subst hxy;exact Lt.irrefl hxn ⟨q,h1,h2⟩
   have hwt:y.u*w-x.u*t=w+t:=by
    rcases hu with e|e<;>rcases hv with f|f
    ·exact absurd (e.trans f.symm) hne
    ·rw [e,f] at dpos;grind
    ·rw [e,f];grind
    exact absurd (e.trans f.symm) hne
   have hrL:1≤x.r*L:=by
    rcases int_far hj1 (fun e=>by
     rcases Rat.mul_eq_zero.1 e with e|e
     ·exact hr0 e
     grind) with h|h
    ·exact h
    exfalso;have:=yas hxn (show 0≤L by grind)
    grind
   have b1:x.r≤(t+e)*(2*B):=by
    have:=yar (a:=t+e) (b:=2*B) (c:=t+e) (by grind) (by grind);grind
   have b2:=yar b1 (show 0≤L by grind)
   have hBL:B*L≤B*B*B*Q:=by
    have z1:=yar hLQ (show 0≤B by grind)
    have z2:=yar hBB (show 0≤B by grind)
    have z3:=yar z2 (show 0≤Q by grind)
    grind
   have b3:=yar hBL (Rat.le_of_lt he);have b4:=yar hBL t1;have b5:0≤B*B*B*Q*w:=yas (by grind) w1;have:(y.p-x.p)+y.u*w-x.u*t=w+t:=by grind
   rw [this];grind
  exfalso;by_cases hs0:y.r=0
  ·rw [hs0] at hz2
   have h3:=ybL (a:=(y.p-x.p)*(y.p-x.p)+0-x.r) (by grind);by_cases hr0:x.r=0
   ·rw [hr0] at h3
    exact hd0 (ybL (by grind))
   exact hx.ok.sq hr0 (y.p-x.p) (by grind)
  exact hy.ok.sq hs0 _ (ygp hz2 (by grind))
 have hzQ:nrm (y.p-x.p) x.r y.r*Q≠0:=fun e=>by
  rcases Rat.mul_eq_zero.1 e with e|e
  ·exact hz e
  grind
 have hfar:=int_far hQi hzQ;clear hQi hzQ hz k1 k2 h1 h2 hxn hyn he3m hden;generalize nrm (y.p-x.p) x.r y.r=Z at *;generalize nrm (y.p-x.p) (t*t) (w*w)=Zt at *;generalize hut:x.u*t=ut at *;generalize hvw:y.u*w=vw at *;generalize y.p-x.p=d at *
 -- the other three factors
 have c1:=yiC (a:=d-vw-ut) (b:=d-vw+ut) (A:=4*B) (C:=4*B) (by constructor<;>grind) (by constructor<;>grind);have c2:=yiC (a:=d+vw+ut) (b:=(d-vw-ut)*(d-vw+ut)) (A:=4*B) (C:=4*B*(4*B)) (by constructor<;>grind) c1;generalize (d+vw+ut)*((d-vw-ut)*(d-vw+ut))=c at *;clear c1;have c2' : -(64*(B*B*B))≤c∧c≤64*(B*B*B):=by constructor<;>grind
 clear c2
 -- how far the two norms are from one another
 have f1:10*(B*B)*((x.r-t*t)+(y.r-w*w))≤60*(B*B*B)*e:=by
  have:=yar (a:=(x.r-t*t)+(y.r-w*w)) (b:=e*(6*B)) (c:=B*B) (by grind) hBB0;grind
 have f2:Z-Zt≤60*(B*B*B)*e ∧ -(60*(B*B*B)*e)≤Z-Zt:=by constructor<;>grind
 have hQ0:0≤Q:=by grind
 have f3:=yar f2.1 hQ0;have f4:=yar f2.2 hQ0;have f5:60*(B*B*B)*e*Q≤1 / 2:=by grind
 have dQ:0≤(d+vw-ut)*Q:=yas (Rat.le_of_lt dpos) hQ0;generalize hdQ:(d+vw-ut)*Q=D at *;have hz:Zt*Q=D*c:=by grind
 have g1:=yas (a:=64*(B*B*B)-c) (b:=D) (by grind) dQ;have g2:=yas (a:=64*(B*B*B)+c) (b:=D) (by grind) dQ;have:128*(B*B*B)*Q*(d+vw-ut)=128*(B*B*B)*D:=by rw [← hdQ];grind
 rw [this];rcases hfar with h|h<;>grind
theorem sep_num {M L B N:Rat} {x y:Qn} (hM:1≤M) (hL:1≤L) (hB:1≤B) (hMi:∃ m:Int,M=m) (hLi:∃ n:Int,L=n) (hx:Ht M L B x) (hy:Ht M L B y) (h:Lt x y)
  (hN:512*(B*B*B)*(M*M*(M*M)*(L*L))≤N) (hN1:1≤N):∃ m:Int,Above1 (m / N) x∧Below1 (m / N) y ∧ -(2*B)*N≤m∧(m:Rat)≤2*B*N:=by
 obtain⟨e0,he0,k⟩:=sep_core hM hL hB hMi hLi hx hy h;obtain⟨e1,he1,h11,h12⟩:=ycG (d:=1) (m:=N) (by grind) (by grind);obtain⟨e,he,h21,h22⟩:=ybR he0 he1;obtain⟨t,ht⟩:=ybQ hx.ok.nn he;obtain⟨w,hw⟩:=ybQ hy.ok.nn he;have k1:=k e t w he h21 ht hw
 have heN:e*N≤1:=by
  have:=yar h22 (show 0≤N by grind)
  grind
 have hu:=x.u_or;have hv:=y.u_or;have tB:t≤B:=ycK (by grind) (by have:=ht.le;have:=hx.rt;grind);have wB:w≤B:=ycK (by grind) (by have:=hw.le;have:=hy.rt;grind);have t1:=ht.nn;have w1:=hw.nn;have xl:=hx.lo;have xh:=hx.hi;have yl:=hy.lo;have yh:=hy.hi;have hXl : -(2*B)≤x.p+x.u*t:=by rcases hu with f|f<;>rw [f]<;>grind
 have hYh:y.p+y.u*w≤2*B:=by rcases hv with f|f<;>rw [f]<;>grind
 have hpos:0<y.p-x.p+y.u*w-x.u*t:=by
  by_cases hp:0<y.p-x.p+y.u*w-x.u*t
  ·exact hp
  exfalso;have hBB:1≤B*B:=by have:=yfp (a:=1) (b:=B) (by grind) hB;grind
  have hB3:0≤B*B*B:=yas (by grind) (by grind);have hQ:=yas (ycO (M*M)) (ycO L)
  have:=yas (a:=128*(B*B*B)*(M*M*(M*M)*(L*L))) (b:=-(y.p-x.p+y.u*w-x.u*t)) (by
   have:=yas hB3 hQ
   grind) (by grind)
  grind
 have k2:4≤N*(y.p-x.p+y.u*w-x.u*t):=by
  have:=yar hN (Rat.le_of_lt hpos);grind
 clear k k1 hN hpos;have c1:=@Rat.le_ceil (N*(x.p+x.u*t+e));have c2:((N*(x.p+x.u*t+e)).ceil:Rat)<N*(x.p+x.u*t+e)+1:=Rat.ceil_lt;generalize (N*(x.p+x.u*t+e)).ceil=m at *;have hm:(m:Rat) / N*N=m:=Rat.div_mul_cancel (by grind);obtain⟨q,hq⟩:∃ q,(m:Rat) / N=q:=⟨_,rfl⟩;rw [hq] at hm
 have cancel:∀ a b:Rat,N*a≤N*b→a≤b:=fun a b hab=>by
  by_cases hc:a≤b
  ·exact hc
  exfalso;have:=yal (a:=N) (b:=a-b) (by grind) (by grind);grind
 have q1:e≤q-(x.p+x.u*t):=cancel _ _ (by grind);have q2:e≤y.p+y.u*w-q:=cancel _ _ (by grind);refine ⟨m,?_,?_,?_,?_⟩
 ·have:=ydd hx.ok.nn hu ht he q1
  unfold Above1;have e1:q-(x.p+x.u*t)+x.u*t=q-x.p:=by grind
  rw [e1] at this;rw [hq];exact this
 ·have:=ydd (w:=-y.u) hy.ok.nn (by rcases hv with f|f<;>rw [f]<;>simp) hw he q2
  unfold Below1;have e1:y.p+y.u*w-q + -y.u*w=y.p-q:=by grind
  rw [e1,Rat.neg_neg] at this;rw [hq];exact this
 ·have:=yar (show -(2*B)≤q by grind) (show 0≤N by grind)
  grind
 have:=yar (show q≤2*B by grind) (show 0≤N by grind)
 grind
end Go.Proofs.YtpgffjjpiafhpaaGreatDoor
