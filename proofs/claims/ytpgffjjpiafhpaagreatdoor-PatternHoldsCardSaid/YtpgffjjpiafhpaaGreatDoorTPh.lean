/- Parts of a proof: Sk@h Ss@h Ue@h Uh@h Vc@h Va@h Ia@h Iz@h Vb@h Fd@h Ea@h Ed@h Hq@h Eh@h Ei@h El@h Em@h En@h Hh@h. -/
import Derived.Deep.Slices
import Derived.Lib.SmallJoins
import Derived.Test.YtpgffjjpiafhpaaGreatDoorP13
import Derived.Test.YtpgffjjpiafhpaaGreatDoorP14
import Derived.Test.YtpgffjjpiafhpaaGreatDoorP08
import Derived.Test.YtpgffjjpiafhpaaGreatDoorP18
import Derived.Test.YtpgffjjpiafhpaaGreatDoorP17
import Derived.Test.YtpgffjjpiafhpaaGreatDoorP15
import Derived.Test.YtpgffjjpiafhpaaGreatDoorP23
import Derived.Test.YtpgffjjpiafhpaaGreatDoorP20
import Derived.Test.YtpgffjjpiafhpaaGreatDoorP19
import Derived.Test.YtpgffjjpiafhpaaGreatDoorP32
set_option linter.unusedVariables false
set_option linter.unusedSimpArgs false
set_option linter.unusedSectionVars false
set_option maxRecDepth 100000
set_option maxHeartbeats 8000000
namespace Go.Proofs.YtpgffjjpiafhpaaGreatDoor
open Go.RowKit Tryz
section
variable {P:Program} {ops:Array Oper} {md:Region.Mode} {S:World→Prop} {Q:Exit→Act→World→Prop}
theorem heldT_skip {n f:Nat} {L:Array Bool→Act→World→Prop} {listed:Array Bool} {a:Act} {w:World} (i:Nat) {o:Oper} (ho:ops[i]? = some o) (hi:i<n) (hf:Region.free md ops listed i=true) (hr:(Region.ready md ops listed).contains i=true)
  (hg:Region.wanted o (yielded ops a.tmps)=false) (hS:S w)
  (h2:∀ K:Act→Prop,(∀ a,yaZ P md ops Q S n L f (listed.setIfInBounds i true) a w→K a)→K (a.put o.dst undef)):yaZ P md ops Q S n L (f+1) listed a w :=
 .inl ⟨i,o,undef,ho,hi,hf,hr,.inr ⟨hg,rfl⟩,hS,h2 _ (fun _ h=>h)⟩
theorem jS {n f:Nat} {L:Array Bool→Act→World→Prop} {listed:Array Bool} {a:Act} {w:World} (i:Nat) {o:Oper} (hS:S w) (h2:∀ K:Act→Prop,(∀ a,yaZ P md ops Q S n L f (listed.setIfInBounds i true) a w→K a)→K (a.put o.dst undef)) (ho:ops[i]? = some o:=by rfl) (hi:i<n:=by decide) (hf:Region.free md ops listed i=true:=by kernel_rfl) (hr:(Region.ready md ops listed).contains i=true:=by kernel_rfl) (hg:Region.wanted o (yielded ops a.tmps)=false:=by rfl):yaZ P md ops Q S n L (f+1) listed a w :=
 heldT_skip i ho hi hf hr hg hS h2
end
section
variable {α:Type} (enc:α→List Value)
variable {enc}
end
theorem kw_k {w:World} {g:Nat} {x:K} {t:TypeId} (h:w.heap[g]? = some (.cells (kC x) t)):∀ m:KW w,(loadVar 30 ⟨g,0,none⟩).run prog (Wk w m) = .ok (kv x) (Wk w m) :=
 fun m=>yaL _ _ _ _ (kAt_box (m.k.heap h (by simp)))
theorem Minus_c (a b:Bool) (w:World):Calls prog 124 #[.bool a,.bool b] w fun e w'=>e = .returned (.bool (decV 3 a b))∧Keep [] w w':=by
 cases a<;>cases b
 all_goals
  go_enter func124,ntmps124
  go_wp2_with fail;go_ret
  exact ⟨rfl,Keep.refl _ _⟩
theorem Minus_pT (a b:List (Iv K)) (ha:∀ i∈a,i.f<i.l) (hb:∀ i∈b,i.f<i.l) (w:World) (sv tv:Value) (hr:IvR w sv a) (hs:IvR w tv b) (h9:a.length≤10000) (h8:b.length≤10000) :
  Calls prog 74 #[sv,tv] w fun e w'=>∃ v,e = .returned v∧IvR w' v (combK 3 a b)∧Keep [] w w'∧TyI w' v:=by
 have H:=jX (ygz (decV 3) 124 (enters_of func124 (by kernel_rfl) rfl) (fun x y w=>Minus_c x y w) (ycQ 3) a b ha hb w sv tv hr hs h9 h8);obtain⟨ao,ac,rfl,_⟩:=hr.form;obtain⟨bo,bc,rfl,_⟩:=hs.form;clear hr hs ha hb;go_enter func74,ntmps74
 go_wp2_with fail;refine H.out.mono ?_;rintro e w1 ⟨v,out,rfl,hv,h1,h2,hk,ht⟩;dsimp only;have HV:=jX (show IvR w1 v (combK 3 a b) by rw [← yep h1 h2];exact hv)
 have HK:=jX hk;have HT:=jX ht;obtain⟨vo,vc,rfl,_⟩:=hv.form;clear hv h1 h2 hk ht;go_wp2_with fail;go_ret
 exact ⟨_,rfl,HV.out,HK.out,HT.out⟩
theorem Minus_p (a b:List (Iv K)) (ha:∀ i∈a,i.f<i.l) (hb:∀ i∈b,i.f<i.l) (w:World) (sv tv:Value) (hr:IvR w sv a) (hs:IvR w tv b) (h9:a.length≤10000) (h8:b.length≤10000) :
  Calls prog 74 #[sv,tv] w fun e w'=>∃ v,e = .returned v∧IvR w' v (combK 3 a b)∧Keep [] w w':=(Minus_pT a b ha hb w sv tv hr hs h9 h8).mono fun _ _ ⟨v,h1,h2,h3,_⟩=>⟨v,h1,h2,h3⟩
section
open Classical
theorem covers_c (a b:List (Iv K)) (ha:∀ i∈a,i.f<i.l) (hb:∀ i∈b,i.f<i.l) (w:World) (sv tv:Value) (hr:IvR w sv a) (hs:IvR w tv b) (h9:a.length≤10000) (h8:b.length≤10000) :
  Calls prog 50 #[sv,tv] w fun e w'=>e = .returned (.bool (decide (combK 3 b a=[])))∧Keep [] w w':=by
 have H:=jX (Minus_p b a hb ha w tv sv hs hr h8 h9);obtain⟨ao,ac,rfl,_⟩:=hr.form;obtain⟨bo,bc,rfl,_⟩:=hs.form;clear hr hs ha hb;go_enter func50,ntmps50
 go_wp2_with fail;refine H.out.mono ?_;rintro e w1 ⟨v,rfl,hv,hk⟩;dsimp only;have HK:=jX hk;obtain⟨vo,vc,rfl,_⟩:=hv.form;obtain⟨r,hr⟩:∃ r,decide (combK 3 b a=[])=r:=⟨_,rfl⟩
 have hd:(((combK 3 b a).length:Int) == 0)=r:=by
  rw [← hr,Bool.eq_iff_iff,beq_iff_eq,decide_eq_true_iff,← List.length_eq_zero_iff];omega
 have HRr:=jX hr;clear hv hk H hr;generalize (combK 3 b a).length=n at *;go_wp2_with fail;go_ret
 exact ⟨by rw [HRr.out];rfl,HK.out⟩
end
section
open Classical
theorem cmpB_le (a b:Bd K):cmpB a b≤0↔a≤b:=by
 rcases ycS a b with ⟨h,g⟩|⟨h,g⟩|⟨h,g⟩
 ·rw [h];exact ⟨fun h2=>absurd h2 (by decide),fun h2=>by grind⟩
 ·rw [h];exact ⟨fun _=>by grind,fun _=>by decide⟩
 rw [h];exact ⟨fun _=>by grind,fun _=>by decide⟩
theorem bd_built (x:K) (o:Bool):prog.built 114 [(0,kv x),(1,.bool o)]=some (bC ⟨x,o⟩):=ydo _ _ _ _ _ _ _ _
theorem contains1_c (i:Iv K) (t:K) (w:World) (g:Nat) (hb:w.heap[g]? = some (.cells (kC t) 30)) :
  Calls prog 115 #[iv i,.pointer (some ⟨g,0,none⟩)] w fun e w'=>e = .returned (.bool (decide (i.f≤⟨t,false⟩∧(⟨t,true⟩:Bd K)≤i.l)))∧Keep [] w w':=by
 have HF:=jX (fun w=>yeN i w);have HL:=jX (fun w=>ygD i w);have HC1:=jX (fun w=>yfC i.f ⟨t,false⟩ w);have HC2:=jX (fun w=>yfC ⟨t,true⟩ i.l w);have B1:=jX (bd_built t false);have B2:=jX (bd_built t true);have hd1:decide (cmpB i.f ⟨t,false⟩≤0)=decide (i.f≤⟨t,false⟩):=by rw [Bool.eq_iff_iff,decide_eq_true_iff,decide_eq_true_iff];exact cmpB_le _ _
 have hd2:decide (cmpB ⟨t,true⟩ i.l≤0)=decide ((⟨t,true⟩:Bd K)≤i.l):=by rw [Bool.eq_iff_iff,decide_eq_true_iff,decide_eq_true_iff];exact cmpB_le _ _
 have hres:decide (i.f≤⟨t,false⟩∧(⟨t,true⟩:Bd K)≤i.l)=(decide (cmpB i.f ⟨t,false⟩≤0)&&decide (cmpB ⟨t,true⟩ i.l≤0)):=by rw [hd1,hd2,Bool.decide_and]
 rw [hres];clear hd1 hd2 hres;generalize cmpB i.f ⟨t,false⟩=n1 at *;generalize cmpB ⟨t,true⟩ i.l=n2 at *;have ho:iv i = .agg (iC i):=rfl;have hk:kv t = .agg (kC t):=rfl;have e1:bv i.f = .agg (bC i.f):=rfl;have e2:bv i.l = .agg (bC i.l):=rfl;have e3:bv ⟨t,false⟩ = .agg (bC ⟨t,false⟩):=rfl;have e4:bv ⟨t,true⟩ = .agg (bC ⟨t,true⟩):=rfl;rw [ho];rw [ho,e1] at HF;rw [ho,e2] at HL;rw [e1,e3] at HC1;rw [e2,e4] at HC2;rw [hk] at B1 B2;clear ho hk e1 e2 e3 e4;by_cases h1:n1≤0
 ·have hd:decide (n1≤0)=true:=decide_eq_true h1
  rw [hd,Bool.true_and];go_enter func115,ntmps115
  go_upto_region 1 with (fail)
  obtain⟨W,ga,hW,ega,Bga,hga,hgW,HkW⟩:=al1h w (.cells (iC i) 32);rw [← hW];try rw [ega]
  clear hW ega;have HLi:=jX ((yap Bga.out).ld (yaa Bga.out));have HLt:=jX (kw_k (HkW.out.heap hb (by simp)));have hiv:iv i = .agg (iC i):=rfl;have hkv:kv t = .agg (kC t):=rfl;rw [hiv] at HLi;rw [hkv] at HLt;clear hiv hkv hb Bga;have Q1:Hid (∀ m:KW W,Calls prog 77 #[.agg (iC i)] (Wk W m) fun e w'=>e = .returned (.agg (bC i.f))∧∃ m,w'=Wk W m):=fun m=>qk m (HF.out _);have Q2:Hid (∀ m:KW W,Calls prog 78 #[.agg (iC i)] (Wk W m) fun e w'=>e = .returned (.agg (bC i.l))∧∃ m,w'=Wk W m):=fun m=>qk m (HL.out _);have Q3:Hid (∀ m:KW W,Calls prog 76 #[.agg (bC i.f),.agg (bC ⟨t,false⟩)] (Wk W m) fun e w'=>e = .returned (.int .i64 n1)∧∃ m,w'=Wk W m):=fun m=>qk m (HC1.out _);have Q4:Hid (∀ m:KW W,Calls prog 76 #[.agg (bC ⟨t,true⟩),.agg (bC i.l)] (Wk W m) fun e w'=>e = .returned (.int .i64 n2)∧∃ m,w'=Wk W m):=fun m=>qk m (HC2.out _);clear HF HL HC1 HC2;generalize iC i=I at *;generalize kC t=T at *;generalize bC i.f=F at *;generalize bC i.l=L at *;generalize bC ⟨t,false⟩=T0 at *;generalize bC ⟨t,true⟩=T1 at *;refine yae (by kernel_rfl) (by kernel_rfl) ?_
  repeat (first
   | go_big_quiet_skip
   | (go_big_quiet_want;first
    | (refine yan _ _ _ (.agg I) rfl rfl (by rintro _ ⟨m,rfl⟩;exact HLi.out m) ?_;go_simp;go_big_quiet_on)|(refine yan _ _ _ (.agg T) rfl rfl (by rintro _ ⟨m,rfl⟩;exact HLt.out m) ?_;go_simp;go_big_quiet_on)|(refine ycA _ _ #[(0,.agg T),(1,.bool false)] (T0) rfl (by simp only [List.map_toArray,List.map_cons,List.map_nil];rfl) B1.out ?_;go_simp;go_big_quiet_on)|(refine ycA _ _ #[(0,.agg T),(1,.bool true)] (T1) rfl (by simp only [List.map_toArray,List.map_cons,List.map_nil];rfl) B2.out ?_;go_simp;go_big_quiet_on)
    | (go_big_quiet_op;first|go_big_quiet_on|go_big_quiet_call (first
     | (go_at_call 77;with_reducible exact (Q1).out _)|(go_at_call 78;with_reducible exact (Q2).out _)|(go_at_call 76;with_reducible exact (Q3).out _)|(go_at_call 76;with_reducible exact (Q4).out _)))))
  refine wpQuiet_nil ?_;rintro w2 ⟨⟨_,hk_w2⟩,rfl⟩;go_wp2_with fail;go_ret
  exact ⟨rfl,HkW.out.tz hk_w2⟩
 have hd:decide (n1≤0)=false:=decide_eq_false h1;rw [hd,Bool.false_and];go_enter func115,ntmps115
 go_upto_region 1 with (fail)
 obtain⟨W,ga,hW,ega,Bga,hga,hgW,HkW⟩:=al1h w (.cells (iC i) 32);rw [← hW];try rw [ega]
 clear hW ega;have HLi:=jX ((yap Bga.out).ld (yaa Bga.out));have HLt:=jX (kw_k (HkW.out.heap hb (by simp)));have hiv:iv i = .agg (iC i):=rfl;have hkv:kv t = .agg (kC t):=rfl;rw [hiv] at HLi;rw [hkv] at HLt;clear hiv hkv hb Bga;have Q1:Hid (∀ m:KW W,Calls prog 77 #[.agg (iC i)] (Wk W m) fun e w'=>e = .returned (.agg (bC i.f))∧∃ m,w'=Wk W m):=fun m=>qk m (HF.out _);have Q2:Hid (∀ m:KW W,Calls prog 78 #[.agg (iC i)] (Wk W m) fun e w'=>e = .returned (.agg (bC i.l))∧∃ m,w'=Wk W m):=fun m=>qk m (HL.out _);have Q3:Hid (∀ m:KW W,Calls prog 76 #[.agg (bC i.f),.agg (bC ⟨t,false⟩)] (Wk W m) fun e w'=>e = .returned (.int .i64 n1)∧∃ m,w'=Wk W m):=fun m=>qk m (HC1.out _);have Q4:Hid (∀ m:KW W,Calls prog 76 #[.agg (bC ⟨t,true⟩),.agg (bC i.l)] (Wk W m) fun e w'=>e = .returned (.int .i64 n2)∧∃ m,w'=Wk W m):=fun m=>qk m (HC2.out _);clear HF HL HC1 HC2;generalize iC i=I at *;generalize kC t=T at *;generalize bC i.f=F at *;generalize bC i.l=L at *;generalize bC ⟨t,false⟩=T0 at *;generalize bC ⟨t,true⟩=T1 at *;refine yae (by kernel_rfl) (by kernel_rfl) ?_
 repeat (first
  | go_big_quiet_skip
  | (go_big_quiet_want;first
   | (refine yan _ _ _ (.agg I) rfl rfl (by rintro _ ⟨m,rfl⟩;exact HLi.out m) ?_;go_simp;go_big_quiet_on)|(refine yan _ _ _ (.agg T) rfl rfl (by rintro _ ⟨m,rfl⟩;exact HLt.out m) ?_;go_simp;go_big_quiet_on)|(refine ycA _ _ #[(0,.agg T),(1,.bool false)] (T0) rfl (by simp only [List.map_toArray,List.map_cons,List.map_nil];rfl) B1.out ?_;go_simp;go_big_quiet_on)|(refine ycA _ _ #[(0,.agg T),(1,.bool true)] (T1) rfl (by simp only [List.map_toArray,List.map_cons,List.map_nil];rfl) B2.out ?_;go_simp;go_big_quiet_on)
   | (go_big_quiet_op;first|go_big_quiet_on|go_big_quiet_call (first
    | (go_at_call 77;with_reducible exact (Q1).out _)|(go_at_call 78;with_reducible exact (Q2).out _)|(go_at_call 76;with_reducible exact (Q3).out _)|(go_at_call 76;with_reducible exact (Q4).out _)))))
 refine wpQuiet_nil ?_;rintro w2 ⟨⟨_,hk_w2⟩,rfl⟩;go_wp2_with fail;go_ret
 exact ⟨rfl,HkW.out.tz hk_w2⟩
theorem any_take {α:Type} (p:α→Bool) (l:List α) (k:Nat) (h:k<l.length) (hno:(l.take k).any p=false):(l.take (k+1)).any p=p l[k]:=by
 rw [List.take_succ_eq_append_getElem h,List.any_append,hno];simp
theorem any_early {α:Type} (p:α→Bool) (l:List α) (k:Nat) (h:(l.take k).any p=true):l.any p=true:=by
 rw [List.any_eq_true] at h ⊢;obtain⟨x,hx,h⟩:=h;exact ⟨x,List.mem_of_mem_take hx,h⟩
theorem index_c (l:List (Iv K)) (t:K) (gt:Nat) (w:World) (hb:w.heap[gt]? = some (.cells (kC t) 30)) (sv:Value) (hr:IvR w sv l) (h9:l.length≤1000000000) :
  Calls prog 161 #[sv,.func (.func 115) #[] #[.pointer (some ⟨gt,0,none⟩)]] w fun e w'=>∃ n:Int,e = .returned (.int .i64 n)∧decide (0≤n)=holds l t∧Keep [] w w':=by
 have HR:=jX hr;have Hb:=jX hb;have HC:=jX (fun i w hb=>contains1_c i t w gt hb);obtain⟨ao,ac,rfl,_⟩:=hr.form;clear hr hb;unfold holds;generalize hP:(fun i:Iv K=>decide (i.f≤⟨t,false⟩∧(⟨t,true⟩:Bd K)≤i.l))=P at *;have HP:=jX hP;clear hP;go_enter func161,ntmps161
 go_wp2_with fail;go_loopw [5,8] (fun _ c wr=>∃ k:Nat,k≤l.length∧c = .int .i64 (k:Int)∧(l.take k).any P=false∧Keep [] w wr) (fun _ c _=>l.length-(intOf c).toNat)
 case atStart=>exact ⟨0,Nat.zero_le _,rfl,rfl,Keep.refl _ _⟩
 case round =>
  obtain⟨k,hk,rfl,hno,hkeep⟩:=hrel;have Hno:=jX hno;have HKr:=jX hkeep;clear hno hkeep;by_cases hlt:k<l.length
  ·obtain⟨g,o,rfl,hg,hat⟩:=IvR.elem (HR.out.later HKr.out) k hlt
   have Hnx:=jX (any_take P l k hlt Hno.out);obtain⟨i,hi⟩:∃ i,l[k]=i:=⟨_,rfl⟩;rw [hi] at Hnx hat;have H1:=jX (HC.out i wr (HKr.out.heap Hb.out (by simp)));obtain⟨p,hp⟩:∃ p,o+k*20=p:=⟨_,rfl⟩;rw [hp] at hat;have HL:=jX (yaE wr g p i hat);have hPi:decide (i.f≤⟨t,false⟩∧(⟨t,true⟩:Bd K)≤i.l)=P i:=by rw [← HP.out]
   have HPi:=jX hPi;rw [hPi] at H1;clear hi hat hPi;have hiv:iv i = .agg (iC i):=rfl;rw [hiv] at H1 HL;clear hiv;generalize P i=r at *;generalize iC i=I at *;go_upto_region 4 with (fail)
   refine wp_region_lit ?_;refine' yab (v:=_) (by rfl) (?ha) (fun K hK=>?ka)
   case ha=>(go_simp;try rfl)
   go_simp;refine hK _ _ ?_;clear hK K;refine' yab (v:=_) (by rfl) (?hb) (fun K hK=>?kb)
   case hb=>(go_simp;try rfl)
   go_simp;refine hK _ _ ?_;clear hK K;refine' yab (v:=_) (by rfl) (?hc) (fun K hK=>?kc)
   case hc=>(go_simp;try rfl)
   go_simp;refine hK _ _ ?_;clear hK K;refine' yab (v:=_) (by rfl) (?hd) (fun K hK=>?kd)
   case hd=>(go_simp;try rfl)
   go_simp;refine hK _ _ ?_;clear hK K;refine yab (v:=.agg I) (by rfl) (yad _ _ ⟨g,p,none⟩ _ rfl rfl HL.out) (fun K hK=>?_);go_simp;refine hK _ _ ?_;clear hK K;refine wpList_plain (by rfl) (fun K hK=>?_);refine yaf 115 #[.agg I,.pointer (some ⟨gt,0,none⟩)] (by go_simp) ?_;refine H1.out.mono ?_;rintro e w3 ⟨rfl,hk3⟩;refine ⟨_,rfl,?_⟩;go_simp;refine hK _ _ ?_;clear hK K;have HKx:=jX (HKr.out.tz hk3);clear hk3 H1 HL HPi;cases r with
   | true =>
    go_wp2_with fail;go_ret
    exact ⟨(k:Int),rfl,by rw [any_early P l _ Hnx.out];exact decide_eq_true (by omega),HKx.out⟩
   | false =>
    go_wp2_with fail;go_roundw
    case rel=>exact ⟨k+1,by omega,congrArg (Value.int .i64) (by omega),Hnx.out,HKx.out⟩
    case measure=>simp [intOf];omega
  have hkl:l.take k=l:=List.take_of_length_le (by omega);have HF:Hid (l.any P=false):=by rw [← hkl];exact Hno.out
  clear hkl Hno;go_wp2_with fail;go_ret
  exact ⟨-1,rfl,by rw [HF.out];rfl,HKr.out⟩
theorem contF_c (l:List (Iv K)) (t:K) (gt:Nat) (w:World) (hb:w.heap[gt]? = some (.cells (kC t) 30)) (sv:Value) (hr:IvR w sv l) (h9:l.length≤1000000000) :
  Calls prog 114 #[sv,.func (.func 115) #[] #[.pointer (some ⟨gt,0,none⟩)]] w fun e w'=>e = .returned (.bool (holds l t))∧Keep [] w w':=by
 have H:=jX (index_c l t gt w hb sv hr h9);obtain⟨ao,ac,rfl,_⟩:=hr.form;clear hr hb;go_enter func114,ntmps114
 go_wp2_with fail;refine H.out.mono ?_;rintro e w2 ⟨n,rfl,hn,hk⟩;dsimp only;have HK:=jX hk;clear hk;go_wp2_with fail;go_ret
 exact ⟨rfl,HK.out⟩
theorem contains_c (l:List (Iv K)) (t:K) (w:World) (sv:Value) (hr:IvR w sv l) (h9:l.length≤1000000000) :
  Calls prog 56 #[sv,kv t] w fun e w'=>e = .returned (.bool (holds l t))∧Keep [] w w':=by
 have HR:=jX hr;have HC:=jX (fun w gt hb sv hr=>contF_c l t gt w hb sv hr h9);obtain⟨ao,ac,rfl,_⟩:=hr.form;clear hr h9;show Calls prog 56 #[_,.agg (kC t)] w _
 go_enter func56,ntmps56
 go_upto_region 1 with (fail)
 obtain⟨W,ga,hW,ega,Bga,hga,hgW,HkW⟩:=al1h w (.cells (kC t) 30);rw [← hW];try rw [ega]
 clear hW ega;have H:=jX (HC.out W ga Bga.out _ (HR.out.later HkW.out));clear HC;go_wp2_with fail;refine H.out.mono ?_;rintro e w2 ⟨rfl,hk⟩;dsimp only;have HK:=jX (HkW.out.tz hk);clear hk;go_wp2_with fail;go_ret
 exact ⟨rfl,HK.out⟩
end
section
open Go.ChangeShapes Go.WideShapes Go.ChangeAt
theorem cells_bool:prog.cellsOf 4=1:=by kernel_rfl
section
variable {H:Type} {enc:TypeId × Value→H} {w:World} {base:Nat} {held:Bool} {fuel:Nat}
end
end
section
open Go.ChangeShapes Go.WideShapes Go.ChangeAt
theorem cells_str:prog.cellsOf 9=1:=by kernel_rfl
theorem cells_zint:prog.cellsOf 26=2:=by kernel_rfl
theorem cells_zrat:prog.cellsOf 28=4:=by kernel_rfl
theorem cells_zreal:prog.cellsOf 30=9:=by kernel_rfl
theorem slice_ok {w:World} {base:Nat} {t e:TypeId} {a:Option Addr} {len cap:Nat} (ht:prog.underlying t=some (.slice e)) (h:Cell.okWide prog w .any base t (.slice a len cap)) :
  (a=none∧len=0∧cap=0)∨∃ b off,a=some ⟨b,off,none⟩∧len≤cap∧b<w.heap.size:=by
 simp only [Cell.okWide,ht] at h;unfold Cell.ok at h;simp only [ht] at h;cases a with
 | none =>
  left
  cases len with
  | zero =>
   cases cap with
   | zero=>exact ⟨rfl,rfl,rfl⟩
   | succ _=>exact absurd h id
  | succ _=>exact absurd h id
 | some a =>
  right
  have h':len≤cap∧(cap:Int)≤IntKind.i64.max∧w.has prog .any base a e cap:=h;obtain⟨h1,_,_,hs,row,cells,hsh,_⟩:=h';obtain⟨b,off,sp⟩:=a;dsimp only at hs hsh;subst hs;refine ⟨b,off,rfl,h1,?_⟩;unfold World.shape? at hsh;rcases Nat.lt_or_ge b w.heap.size with h|h
  ·exact h
  rw [Array.getElem?_eq_none h] at hsh;cases hsh
section
variable {H:Type} {enc:TypeId × Value→H} {w:World} {base:Nat} {held:Bool} {fuel:Nat}
def Wt (t:TypeId) (d:DataW H) (B:Nat):Prop:=∀ n∈d.weights prog t,n≤B
theorem wt_head {t:TypeId} {ts:List TypeId} {d:DataW H} {r:List (DataW H)} (h:(DataW.weightsEach prog (t :: ts) (d :: r)).all (· ≤ reachBytes)=true):Wt t d reachBytes:=fun n hn=>by
 have:=List.all_eq_true.1 h n (by rw [DataW.weightsEach];exact List.mem_append_left _ hn)
 simpa using this
theorem wt_tail {t:TypeId} {ts:List TypeId} {d:DataW H} {r:List (DataW H)} (h:(DataW.weightsEach prog (t :: ts) (d :: r)).all (· ≤ reachBytes)=true):(DataW.weightsEach prog ts r).all (· ≤ reachBytes)=true:=by
 rw [DataW.weightsEach,List.all_append,Bool.and_eq_true] at h;exact h.2
theorem zint_w (a b:DataW H):(DataW.agg [a,b]:DataW H).weights prog 26=a.weights prog 4++b.weights prog 9:=by
 simp [DataW.weights,DataW.weightsEach,underlying26]
theorem zrat_w (a b:DataW H):(DataW.agg [a,b]:DataW H).weights prog 28=a.weights prog 26++b.weights prog 26:=by
 simp [DataW.weights,DataW.weightsEach,underlying28]
theorem zreal_w (a b c:DataW H):(DataW.agg [a,b,c]:DataW H).weights prog 30=a.weights prog 28++(b.weights prog 28++c.weights prog 4):=by
 simp [DataW.weights,DataW.weightsEach,underlying30]
theorem all_w {e:TypeId} {d:DataW H}:∀ {l:List (DataW H)},d∈l→∀ n∈d.weights prog e,n∈DataW.weightsAll prog e l
 | x :: l,h,n,hn=>by
  rw [DataW.weightsAll];rcases List.mem_cons.1 h with rfl|h
  ·exact List.mem_append_left _ hn
  exact List.mem_append_right _ (all_w h n hn)
theorem zint_trod {cs:List Value} {x:DataW H × List MemPlace} (h:DataW.trod enc prog w base (fun _=>true) held fuel 26 cs=some x):∃ (b:Bool) (s:ByteArray),cs=[.bool b,.string s]∧∀ B,Wt 26 x.1 B→s.size≤B:=by
 obtain⟨xs,n,_,rfl,hl,hlen,hf⟩:=DataW.trod_struct underlying26 h;rw [cells_zint] at hl
 match cs,hl with
 | [c0,c1],_ =>
  match xs,hlen with
  | [x0,x1],_ =>
   have h0:DataW.trod enc prog w base (fun _=>true) held n 4 (([c0,c1].drop 0).take (prog.cellsOf 4))=some x0:=hf 0 _ rfl;have h1:DataW.trod enc prog w base (fun _=>true) held n 9 (([c0,c1].drop 1).take (prog.cellsOf 9))=some x1:=hf 1 _ rfl;rw [cells_bool] at h0;rw [cells_str] at h1;obtain⟨b,e0,_⟩:=DataW.trod_bool underlying4 h0;obtain⟨s,e1,rfl,_⟩:=DataW.trod_string underlying9 h1;simp at e0 e1;refine ⟨b,s,by rw [e0,e1],fun B hB=>hB _ ?_⟩;simp only [List.map_cons,List.map_nil];rw [zint_w];exact List.mem_append_right _ (by simp [DataW.weights])
theorem zrat_trod {cs:List Value} {x:DataW H × List MemPlace} (h:DataW.trod enc prog w base (fun _=>true) held fuel 28 cs=some x):∃ (b:Bool) (s:ByteArray) (d:Bool) (t:ByteArray),cs=[.bool b,.string s,.bool d,.string t]∧∀ B,Wt 28 x.1 B→s.size≤B∧t.size≤B:=by
 obtain⟨xs,n,_,rfl,hl,hlen,hf⟩:=DataW.trod_struct underlying28 h;rw [cells_zrat] at hl
 match cs,hl with
 | [c0,c1,c2,c3],_ =>
  match xs,hlen with
  | [x0,x1],_ =>
   have h0:DataW.trod enc prog w base (fun _=>true) held n 26 (([c0,c1,c2,c3].drop 0).take (prog.cellsOf 26))=some x0:=hf 0 _ rfl;have h1:DataW.trod enc prog w base (fun _=>true) held n 26 (([c0,c1,c2,c3].drop 2).take (prog.cellsOf 26))=some x1:=hf 1 _ rfl;rw [cells_zint] at h0 h1;obtain⟨b,s,e0,g0⟩:=zint_trod h0;obtain⟨d,t,e1,g1⟩:=zint_trod h1;simp at e0 e1;refine ⟨b,s,d,t,by rw [e0.1,e0.2,e1.1,e1.2],fun B hB=>?_⟩;simp only [List.map_cons,List.map_nil,Wt] at hB;rw [zrat_w] at hB;exact ⟨g0 B fun n hn=>hB n (List.mem_append_left _ hn),g1 B fun n hn=>hB n (List.mem_append_right _ hn)⟩
theorem zreal_trod {cs:List Value} {x:DataW H × List MemPlace} (h:DataW.trod enc prog w base (fun _=>true) held fuel 30 cs=some x):∃ r:RawR,cs=r.cells∧∀ B,Wt 30 x.1 B→r.sz B:=by
 obtain⟨xs,n,_,rfl,hl,hlen,hf⟩:=DataW.trod_struct underlying30 h;rw [cells_zreal] at hl
 match cs,hl with
 | [c0,c1,c2,c3,c4,c5,c6,c7,c8],_ =>
  match xs,hlen with
  | [x0,x1,x2],_ =>
   have h0:DataW.trod enc prog w base (fun _=>true) held n 28 (([c0,c1,c2,c3,c4,c5,c6,c7,c8].drop 0).take (prog.cellsOf 28))=some x0:=hf 0 _ rfl;have h1:DataW.trod enc prog w base (fun _=>true) held n 28 (([c0,c1,c2,c3,c4,c5,c6,c7,c8].drop 4).take (prog.cellsOf 28))=some x1:=hf 1 _ rfl;have h2:DataW.trod enc prog w base (fun _=>true) held n 4 (([c0,c1,c2,c3,c4,c5,c6,c7,c8].drop 8).take (prog.cellsOf 4))=some x2:=hf 2 _ rfl;rw [cells_zrat] at h0 h1;rw [cells_bool] at h2;obtain⟨b,s,d,t,e0,g0⟩:=zrat_trod h0;obtain⟨b',s',d',t',e1,g1⟩:=zrat_trod h1;obtain⟨g,e2,_⟩:=DataW.trod_bool underlying4 h2;simp at e0 e1 e2;refine ⟨⟨b,s,d,t,b',s',d',t',g⟩,by simp only [RawR.cells];rw [e0.1,e0.2.1,e0.2.2.1,e0.2.2.2,e1.1,e1.2.1,e1.2.2.1,e1.2.2.2,e2],fun B hB=>?_⟩;simp only [List.map_cons,List.map_nil,Wt] at hB;rw [zreal_w] at hB;have a0:=g0 B fun n hn=>hB n (List.mem_append_left _ hn);have a1:=g1 B fun n hn=>hB n (List.mem_append_right _ (List.mem_append_left _ hn));exact ⟨a0.1,a0.2,a1.1,a1.2⟩
end
end
section
variable {P:Program} {ops:Array Oper} {Q:Exit→Act→World→Prop} {rest:List Oper} {o:Oper} {a:Act} {w:World}
theorem gWC (hw:Region.wanted o (yielded ops a.tmps)=true)
  (h:∀ K:Act→World→Prop,(∀ a w,wpList P ops Q rest a w→K a w)→o.wp P a w K Q):wpList P ops Q (o :: rest) a w:=by
 unfold wpList;rw [if_pos hw];exact .inl (h _ fun _ _ h=>h)
theorem gWE (hw:Region.wanted o (yielded ops a.tmps)=true)
  (h:∃ v,(execOp a.eval o).run P w = .ok (.value v) w∧∀ K:Act→World→Prop,(∀ a w,wpList P ops Q rest a w→K a w)→K (a.put o.dst v) w):wpList P ops Q (o :: rest) a w:=by
 obtain⟨v,h1,h2⟩:=h;exact gWC hw fun K hK=>ybH v w h1 (h2 K hK)
theorem gWS (hw:Region.wanted o (yielded ops a.tmps)=false)
  (h:∀ K:Act→World→Prop,(∀ a w,wpList P ops Q rest a w→K a w)→K (a.put o.dst undef) w):wpList P ops Q (o :: rest) a w:=by
 unfold wpList;rw [hw];exact h _ fun _ _ h=>h
end
section
open Classical
section
variable {S:List K} {w0 w w':World} {L:List (Value × List (Iv K))}
variable {v u:Value} {a b:List (Iv K)}
def BoolPost (S:List K) (w0:World) (L:List (Value × List (Iv K))) (r:Bool) (e:Ending) (w':World):Prop:=e = .returned (.bool r)∧MP S w0 w' L
theorem boolPost_of (h:MP S w0 w L) {r:Bool} {f:Nat} {args:Array Value} (hc:Calls prog f args w fun e w'=>e = .returned (.bool r)∧Keep [] w w'):Calls prog f args w (BoolPost S w0 L r) :=
 hc.mono fun e w' ⟨he,hk⟩=>⟨he,h.move hk⟩
theorem MP.cov (h:MP S w0 w L) (hv:(v,a)∈L) (hu:(u,b)∈L):Calls prog 50 #[v,u] w (BoolPost S w0 L (decide (combK 3 b a=[]))) :=
 boolPost_of h (covers_c a b (h.val hv) (h.val hu) w v u (h.get hv) (h.get hu) (by have:=h.len hv;omega) (by have:=h.len hu;omega))
end
end
section
open Classical
section
variable {w w':World} {L M:List (Value × List (Iv K))} {v u:Value} {a b l:List (Iv K)}
theorem Ls.cov (h:Ls w L) (hv:(v,a)∈L) (hu:(u,b)∈L):Calls prog 50 #[v,u] w (BPost w (decide (combK 3 b a=[]))) :=
 bPost_of (covers_c a b (h.val hv) (h.val hu) w v u (h _ hv).1 (h _ hu).1 (h _ hv).2.2 (h _ hu).2.2)
theorem Ls.cont (h:Ls w L) (hv:(v,a)∈L) (t:K):Calls prog 56 #[v,kv t] w (BPost w (holds a t)) :=
 bPost_of (contains_c a t w v (h _ hv).1 (Nat.le_trans (h _ hv).2.2 (by decide)))
end
section
variable {α:Type} {enc:α→List Value} {e:TypeId} {k:Nat} {w0 w w':World} {v:Value} {l:List α}
end
end
section
open Classical
open Go.ChangeShapes Go.WideShapes Go.ChangeAt
structure RawF where
 a1:Bool
 a2:ByteArray
 a3:Bool
 a4:ByteArray
def RawF.C (x:RawF):Array Value:=#[.bool x.a1,.string x.a2,.bool x.a3,.string x.a4]
def RawF.v (x:RawF):Value:=.agg x.C
def RawF.sz (x:RawF) (k:Nat):Prop:=x.a2.size≤k∧x.a4.size≤k
noncomputable def RawF.ok (x:RawF):Bool:=decide (x.a2.size+x.a4.size≤8)&&chkQ x.a1 x.a2 x.a3 x.a4
theorem dn_fit {d:Nat} (h:(dnS d).size≤8):Fit 8 (d:Int):=by
 unfold dnS at h;split at h
 ·rename_i he
  subst he;exact (ybw (n:=1) (by decide)).2.mono (by decide)
 exact h
theorem RawF.ok_some {x:RawF} (h:x.ok=true):∃ q:Rat,FitQ 8 q∧x.C=rC q:=by
 unfold RawF.ok at h;rw [Bool.and_eq_true,decide_eq_true_iff] at h;obtain⟨q,h1,h2,h3,h4⟩:=ydd.1 h.2;refine ⟨q,⟨?_,dn_fit ?_⟩,?_⟩
 ·unfold Fit
  rw [← h2];omega
 ·rw [← h4];omega
 unfold RawF.C;rw [h1,h2,h3,h4];rfl
theorem load_rawR {w:World} {g:Nat} {x:RawR} (h:w.heap[g]? = some (.cells x.cells.toArray 30)):(loadVar 30 ⟨g,0,none⟩).run prog w = .ok (.agg x.cells.toArray) w:=by
 obtain⟨ie,hie,hs⟩:=infoReal;exact Go.Lib.rl_loadVar_cells 30 ie hie isAgg30 g 0 x.cells (by rw [hs];rfl) w (fun k v hk=>by rw [Nat.zero_add,yac h];exact (List.getElem?_toArray ..).trans hk)
noncomputable def RawR.ok (x:RawR):Bool:=decide (x.a2.size+x.a4.size≤8)&&(decide (x.b2.size+x.b4.size≤8)&&decide x.isK)
theorem RawR.ok_some {x:RawR} (h:x.ok=true):∃ t:K,Sm 8 t∧x.cells.toArray=kC t:=by
 unfold RawR.ok at h;simp only [Bool.and_eq_true,decide_eq_true_iff] at h;obtain⟨h1,h2,q,hq,rfl⟩:=h
 have f:FitR 8 q:=by
  refine ⟨⟨?_,dn_fit ?_⟩,⟨?_,dn_fit ?_⟩⟩
  ·unfold Fit;exact Nat.le_trans (Nat.le_add_right _ _) h1
  ·exact Nat.le_trans (Nat.le_add_left _ _) h1
  ·unfold Fit;exact Nat.le_trans (Nat.le_add_right _ _) h2
  exact Nat.le_trans (Nat.le_add_left _ _) h2
 exact ⟨⟨q,hq,f.1.mono (by decide),f.2.mono (by decide)⟩,f,rfl⟩
theorem small_c (x:RawR) (hs:x.sz 140737488351232) (w:World):Calls prog 51 #[x.v] w fun e w'=>e = .returned (.bool x.ok)∧Below w.heap.size w w':=by
 obtain⟨w1,w2⟩:IntKind.i64.wrap ((x.a2.size:Int)+(x.a4.size:Int))=(x.a2.size:Int)+(x.a4.size:Int)∧IntKind.i64.wrap ((x.b2.size:Int)+(x.b4.size:Int))=(x.b2.size:Int)+(x.b4.size:Int):=by
  unfold RawR.sz at hs;exact ⟨IntWalk.i64_in _ (by omega),IntWalk.i64_in _ (by omega)⟩
 clear hs;unfold RawR.ok;by_cases h8:x.a2.size+x.a4.size≤8
 ·have hd:((x.a2.size:Int)+(x.a4.size:Int))≤8:=by omega
  rw [decide_eq_true h8,Bool.true_and];by_cases h9:x.b2.size+x.b4.size≤8
  ·have hd2:((x.b2.size:Int)+(x.b4.size:Int))≤8:=by omega
   have HC:=jX (rchk_p x ⟨by omega,by omega,by omega,by omega⟩);rw [decide_eq_true h9,Bool.true_and];clear h8 h9;generalize decide x.isK=r at *;have HL:=jX (fun (u:World) (g:Nat)=>load_rawR (w:=u) (g:=g) (x:=x));unfold RawR.v at HC ⊢;unfold RawR.cells at HL;obtain⟨a1,a2,a3,a4,b1,b2,b3,b4,n⟩:=x;dsimp only at *;go_enter func51,ntmps51
   go_upto_region 1 with (fail)
   obtain⟨W,ga,hW,ega,Bga,hga,hgW,HkW⟩:=al1h w (.cells #[.bool a1,.string a2,.bool a3,.string a4,.bool b1,.string b2,.bool b3,.string b4,.bool n] 30);rw [← hW];try rw [ega]
   clear hW ega;have pga:=yac Bga.out;refine wp_region_lit ?_;iterate 27 (first|(refine gWE (by rfl) ?_;refine ⟨?_,?_,fun K hK=>?_⟩;rotate_left;(go_simp;try rfl);go_simp;refine hK _ _ ?_;clear hK K)|(refine gWS (by rfl) (fun K hK=>?_);go_simp;refine hK _ _ ?_;clear hK K))
   refine gWE (by rfl) ⟨.agg #[.bool a1,.string a2,.bool a3,.string a4,.bool b1,.string b2,.bool b3,.string b4,.bool n],yad _ _ ⟨ga,0,none⟩ _ rfl rfl (HL.out _ _ Bga.out),fun K hK=>?_⟩;go_simp;refine hK _ _ ?_;clear hK K;refine gWC (by rfl) (fun K hK=>?_);refine yaf 75 #[.agg #[.bool a1,.string a2,.bool a3,.string a4,.bool b1,.string b2,.bool b3,.string b4,.bool n]] (by go_simp) ?_;refine (HC.out _).mono ?_;rintro e9 w4 ⟨rfl,hk⟩;refine ⟨_,rfl,?_⟩;go_simp;refine hK _ _ ?_;clear hK K;have HK:=jX (HkW.out.bz.trans (Below.mono hk HkW.out.size));clear hk HC HL;have e1:errF true = .int .i64 0:=rfl;have e2:errF false = .int .i64 5:=rfl;cases r
   ·rw [e2]
    iterate 2 (first|(refine gWE (by rfl) ?_;refine ⟨?_,?_,fun K hK=>?_⟩;rotate_left;(go_simp;try rfl);go_simp;refine hK _ _ ?_;clear hK K)|(refine gWS (by rfl) (fun K hK=>?_);go_simp;refine hK _ _ ?_;clear hK K))
    go_wp2_with fail;go_ret
    exact ⟨rfl,HK.out⟩
   rw [e1];iterate 2 (first|(refine gWE (by rfl) ?_;refine ⟨?_,?_,fun K hK=>?_⟩;rotate_left;(go_simp;try rfl);go_simp;refine hK _ _ ?_;clear hK K)|(refine gWS (by rfl) (fun K hK=>?_);go_simp;refine hK _ _ ?_;clear hK K))
   go_wp2_with fail;go_ret
   exact ⟨rfl,HK.out⟩
  have hd2:¬ ((x.b2.size:Int)+(x.b4.size:Int))≤8:=by omega
  rw [decide_eq_false h9,Bool.false_and];clear h8 h9;unfold RawR.v;obtain⟨a1,a2,a3,a4,b1,b2,b3,b4,n⟩:=x;dsimp only at *;go_enter func51,ntmps51
  go_upto_region 1 with (fail)
  obtain⟨W,ga,hW,ega,Bga,hga,hgW,HkW⟩:=al1h w (.cells #[.bool a1,.string a2,.bool a3,.string a4,.bool b1,.string b2,.bool b3,.string b4,.bool n] 30);rw [← hW];try rw [ega]
  clear hW ega;have pga:=yac Bga.out;go_wp2_with fail;go_ret
  exact ⟨rfl,HkW.out.bz⟩
 have hd:¬ ((x.a2.size:Int)+(x.a4.size:Int))≤8:=by omega
 rw [decide_eq_false h8,Bool.false_and];clear h8;unfold RawR.v;obtain⟨a1,a2,a3,a4,b1,b2,b3,b4,n⟩:=x;dsimp only at *;go_enter func51,ntmps51
 go_upto_region 1 with (fail)
 obtain⟨W,ga,hW,ega,Bga,hga,hgW,HkW⟩:=al1h w (.cells #[.bool a1,.string a2,.bool a3,.string a4,.bool b1,.string b2,.bool b3,.string b4,.bool n] 30);rw [← hW];try rw [ega]
 clear hW ega;have pga:=yac Bga.out;go_wp2_with fail;go_ret
 exact ⟨rfl,HkW.out.bz⟩
end
section
open Classical
open Go.ChangeShapes Go.WideShapes Go.ChangeAt
def two (x y:RawF):Array Value:=#[.bool x.a1,.string x.a2,.bool x.a3,.string x.a4,.bool y.a1,.string y.a2,.bool y.a3,.string y.a4]
abbrev RRR:=RowE (fun r:RawR=>r.cells)
theorem rawr_len (x:RawR):((fun r:RawR=>r.cells) x).length=9:=rfl
def RLArg (w:World) (v:Value):Prop:=∃ l:List RawR,RRR w v l∧l.length≤9223372036854775807∧∀ r∈l,r.sz 140737488351232
theorem zreals_trod {H:Type} {enc:TypeId × Value→H} {w:World} {base:Nat} {held:Bool} {fuel:Nat} {sv:Value} {x:DataW H × List MemPlace} (h:DataW.trod enc prog w base (fun _=>true) held fuel 55 [sv]=some x) {base2:Nat} (hok:Cell.okWide prog w .any base2 55 sv) :
  ∃ l:List RawR,RRR w sv l∧l.length≤maxLen∧∀ B,Wt 55 x.1 B→∀ r∈l,r.sz B:=by
 rcases Go.Deep.open_slice underlying55 h with ⟨hcs,_⟩|⟨a,len,cap,m,n,D,Pl,hcs,_,hl,hm,hmm,hx,hel⟩
 ·simp at hcs;exact ⟨[],.inl ⟨hcs,rfl⟩,by simp,fun _ _ _ h=>by cases h⟩
 simp at hcs hmm;by_cases h0:len=0
 ·subst h0
  rw [hcs] at hok;rcases slice_ok underlying55 hok with ⟨h,_⟩|⟨b,off,h,_,hb⟩
  ·cases h
  injection h with h;subst h;exact ⟨[],.inr ⟨b,off,cap,hcs,by simp,hb,fun t v hv=>by simp at hv⟩,by simp,fun _ _ _ h=>by cases h⟩
 have hall:∀ i,i<cap→∃ s:RawR,w.cells? base (a.add (i*9)) 9=some s.cells∧∀ B,Wt 30 (D i) B→s.sz B:=by
  intro i hi;obtain⟨cs',h1,h2⟩:=hel i (by omega);rw [cells_zreal] at h1;obtain⟨s,rfl,hs⟩:=zreal_trod h2;exact ⟨s,h1,hs⟩
 have hfun:∃ f:Nat→RawR,∀ i,i<cap→w.cells? base (a.add (i*9)) 9=some (f i).cells∧∀ B,Wt 30 (D i) B→(f i).sz B:=by
  obtain⟨s0,_⟩:=hall 0 (by omega);exact ⟨fun i=>if h:i<cap then Classical.choose (hall i h) else s0,fun i hi=>by simp only [hi,dif_pos];exact Classical.choose_spec (hall i hi)⟩
 obtain⟨f,hff⟩:=hfun;have hf:∀ i,i<cap→w.cells? base (a.add (i*9)) 9=some (f i).cells:=fun i hi=>(hff i hi).1;have hc0:=(cells?_get (hf 0 (by omega))).2 0 (by omega);obtain⟨b,off,hp⟩:=ycO (v:=.bool (f 0).a1) (by simpa [RawR.cells] using hc0);have ha:a=⟨b,off,none⟩:=by unfold Addr.add at hp;simpa using hp
 subst ha;refine ⟨(List.range len).map f,?_,by simp;omega,fun B hB r hr=>?_⟩
 rotate_left
 ·obtain⟨i,hi,rfl⟩:=List.mem_map.1 hr
  have hi':=List.mem_range.1 hi;refine (hff i (by omega)).2 B fun k hk=>hB k ?_;rw [hx];simp only [DataW.weights,underlying55];exact List.mem_cons_of_mem _ (List.mem_append_left _ (all_w (List.mem_map_of_mem hi) k hk))
 refine .inr ⟨b,off,cap,by simpa using hcs,by simp;omega,?_,fun t v hv=>?_⟩
 ·exact World.block_lt_of_cell? w _ (by
   have e:=hc0;rw [ycb,ycb] at e;simp only [Nat.zero_mul,Nat.add_zero] at e
   exact e.trans (by simp [RawR.cells];rfl))
 have ht:t<len*9:=by
  have:=(List.getElem?_eq_some_iff.1 hv).1;rw [ydA (fun r:RawR=>r.cells) rawr_len] at this
  simpa using this
 have hi:t / 9<len:=Nat.div_lt_of_lt_mul (by rw [Nat.mul_comm];exact ht);have hj:t % 9<9:=Nat.mod_lt _ (by decide);have h1:=yeH (fun r:RawR=>r.cells) rawr_len ((List.range len).map f) (t / 9) (t % 9) (by simpa using hi) hj;rw [Nat.div_add_mod' t 9,hv] at h1;have h2:=(cells?_get (hf (t / 9) (by omega))).2 (t % 9) hj;rw [ycb,ycb,Nat.add_assoc,Nat.div_add_mod' t 9] at h2;rw [h2,h1];simp
theorem RLArg_open {H:Type} {enc:TypeId × Value→H} {W:World} {v:Value} {base:Nat} {d:DataW H} {p:List MemPlace} (hv:Value.okWide prog W .any base 55 v)
  (h:∃ m,DataW.trod enc prog W 0 (fun _=>true) true m 55 v.cells.toList=some (d,p)) (hw:Wt 55 d reachBytes):RLArg W v:=by
 obtain⟨a,len,cap,rfl⟩:=okWide_slice underlying55 hv;obtain⟨m,hm⟩:=h
 have hok:Cell.okWide prog W .any base 55 (.slice a len cap):=by
  simp only [Value.okWide,underlying55] at hv;exact hv
 obtain⟨l,h1,h2,h3⟩:=zreals_trod hm hok;exact ⟨l,h1,by unfold maxLen at h2;omega,h3 _ hw⟩
end
section
open Classical
def StsT (w:World) (svs:List StV):Prop:=∀ x∈svs,Ls w [(x.v,x.s.d)]∧TyI w x.v
theorem StsT.grow {w w':World} {vs:List StV} (h:StsT w vs) (hb:Below w.heap.size w w'):StsT w' vs:=fun x hx=>⟨(h x hx).1.grow hb,(h x hx).2.grow hb⟩
theorem s_ne:65≠32:=by decide
theorem StsT.ty {w w':World} {vs:List StV} {F:List Nat} (h:StsT w vs) (hF:∀ g∈F,∃ cur,w.heap[g]? = some (.cells cur 65)) (hk:Keep F w w'):StsT w' vs:=fun x hx=>(h x hx).1.tyE s_ne (h x hx).2 hF hk
end
section
open Classical
theorem OE.ob {α:Type} {enc:α→List Value} {e:TypeId} {k:Nat} {w0 w:World} {v:Value} {l:List α} (h:OE enc e k w0 w v l):OB enc e k w0 w v l:=⟨h.row,h.base,h.keep.bz⟩
end
section
open Classical
def StsW (w0 w:World) (svs:List StV):Prop:=∀ x∈svs,Ls w [(x.v,x.s.d)]∧(TyI w x.v∨Ls w0 [(x.v,x.s.d)])
theorem StsW.grow {w0 w w':World} {vs:List StV} (h:StsW w0 w vs) (hb:Below w.heap.size w w'):StsW w0 w' vs:=fun x hx=>⟨(h x hx).1.grow hb,(h x hx).2.imp (fun t=>t.grow hb) id⟩
theorem StsW.put {w0 w w':World} {A B:List StV} {s t:StV} {g:Nat} (h:StsW w0 w (A++s :: B)) (ht:Ls w [(t.v,t.s.d)]∧TyI w t.v) (hg:∃ cur,w.heap[g]? = some (.cells cur 65)) (h0:w0.heap.size≤g) (hw:Below w0.heap.size w0 w) (hk:Keep [g] w w'):StsW w0 w' (A++t :: B):=by
 have hF:∀ b∈[g],∃ cur,w.heap[b]? = some (.cells cur 65):=fun b hb=>by
  rw [List.mem_singleton] at hb;subst hb;exact hg
 have hw':Below w0.heap.size w0 w':=hw.trans (hk.below (by simp;exact h0) hw.size)
 have old:∀ x∈A++s :: B,Ls w' [(x.v,x.s.d)]∧(TyI w' x.v∨Ls w0 [(x.v,x.s.d)]):=fun x hx=>by
  rcases (h x hx).2 with k|k
  ·have:=(h x hx).1.tyE s_ne k hF hk
   exact ⟨this.1,.inl this.2⟩
  exact ⟨k.grow hw',.inr k⟩
 intro x hx;rcases List.mem_append.1 hx with hx|hx
 ·exact old x (List.mem_append_left _ hx)
 rcases List.mem_cons.1 hx with rfl|hx
 ·have:=ht.1.tyE s_ne ht.2 hF hk
  exact ⟨this.1,.inl this.2⟩
 exact old x (List.mem_append_right _ (List.mem_cons_of_mem _ hx))
theorem OBS.mid {w0 w:World} {po:Option Addr} {n c:Nat} {A B:List StV} {s:StV} (h:OBS w0 w (.slice po n c) (A++s :: B)):∃ g,po=some ⟨g,0,none⟩∧g<w.heap.size∧StAt w g (A.length*13) s∧∃ cur,w.heap[g]? = some (.cells cur 65):=by
 have hn:n=(A++s :: B).length:=by
  obtain⟨po,pc,e⟩:=h.form;injection e
 subst hn;obtain⟨g,o,e,hg,hat⟩:=RowE.elem StV.len h.read A.length (by simp);have hx:(A++s :: B)[A.length]'(by simp)=s:=by simp
 rw [hx] at hat;subst e;rcases h.row.2 with ⟨hv,_⟩|⟨b,cap,cur,hv,_,hb,_⟩
 ·cases hv
 injection hv with e1;injection e1 with e1;injection e1 with e2 e3;subst e2 e3;exact ⟨g,rfl,hg,fun j v hj=>by have:=hat j v hj;rwa [Nat.zero_add] at this,cur,hb⟩
end
section
open Classical
noncomputable def tAt (l:List K) (i:Nat):K:=l.getD i (kQ 0 (fitq0.mono (by decide)))
theorem tAt_get {l:List K} {k:Nat} (h:k<l.length):tAt l k=l[k]:=by
 unfold tAt;rw [List.getD_eq_getElem?_getD,List.getElem?_eq_getElem h];rfl
noncomputable def hstp (s:Nat→St) (t:Nat→K) (i:Nat):Bool :=
 decide (combK 3 [(⟨⟨t i,false⟩,⟨mvK (s i).g (t i),true⟩⟩:Iv K)] (s i).d=[])&&(decide (i=0) || (decide (mvK (s i).a (mvK (s (i-1)).g (t (i-1)))≤t i)&&decide (t i≤mvK (s i).b (mvK (s (i-1)).g (t (i-1))))))
noncomputable def hall (s:Nat→St) (t:Nat→K) (n:Nat):Bool:=decide (∀ i,i<n→hstp s t i=true)
theorem hall_no {s:Nat→St} {t:Nat→K} {n k:Nat} (hk:k<n) (h:hstp s t k=false):hall s t n=false:=decide_eq_false fun hh=>by rw [hh k hk] at h;cases h
theorem hall_yes {s:Nat→St} {t:Nat→K} {n:Nat} (h:∀ i,i<n→hstp s t i=true):hall s t n=true:=decide_eq_true h
theorem holds_one (a b t:K):holds [(⟨⟨a,false⟩,⟨b,true⟩⟩:Iv K)] t=(decide (a≤t)&&decide (t≤b)):=by
 unfold holds;rw [List.any_cons,List.any_nil,Bool.or_false,Bd.le_def,Bd.le_def,Bool.eq_iff_iff];simp only [decide_eq_true_eq,Bool.and_eq_true];grind
theorem one_ls {lo hi:K} (h:lo≤hi) (u:World):∃ u2 g,u.alloc (.cells (iC ⟨⟨lo,false⟩,⟨hi,true⟩⟩) 32)=u2∧u.heap.size=g∧Keep [] u u2∧Ls u2 [(.slice (some ⟨g,0,none⟩) 1 1,[(⟨⟨lo,false⟩,⟨hi,true⟩⟩:Iv K)])]:=by
 have hn:Norm [(⟨⟨lo,false⟩,⟨hi,true⟩⟩:Iv K)]:=by
  refine ⟨?_,trivial⟩;rw [Bd.lt_def];by_cases he:lo=hi
  ·exact .inr ⟨he,rfl,rfl⟩
  exact .inl (by grind)
 obtain⟨u2,g,e1,e2,_,k,hx⟩:=IvR.single (⟨⟨lo,false⟩,⟨hi,true⟩⟩:Iv K) u;exact ⟨u2,g,e1,e2,k,(Ls.nil _).cons hx hn (by simp)⟩
theorem mv_le {k:Nat} {t:K} {a b:Rat} (ht:Sm k t) (hk:k≤1000) (ha:FitQ 24 a) (hb:FitQ 24 b) (h:a≤b):mvK a t≤mvK b t:=by
 rw [K.le_def,ybA ht (by omega) ha,ybA ht (by omega) hb];exact fun hlt=>mvQ_mono t.2.1.nn h hlt
theorem mv_ge {k:Nat} {t:K} {a:Rat} (ht:Sm k t) (hk:k≤1000) (ha:FitQ 24 a) (h:0≤a):t≤mvK a t:=by
 rw [K.le_def,ybA ht (by omega) ha];exact fun hlt=>mvQ_le t.2.1.nn h hlt
def OnP (w:World) (lo hi:K) (e:Ending) (w':World):Prop:=∃ g,e = .returned (.slice (some ⟨g,0,none⟩) 1 1)∧Below w.heap.size w w'∧Ls w' [(.slice (some ⟨g,0,none⟩) 1 1,[(⟨⟨lo,false⟩,⟨hi,true⟩⟩:Iv K)])]
theorem within_p (k:Nat) (hk:k≤900) (t:K) (ht:Sm k t) (a b:Rat) (ha:FitQ 24 a) (hb:FitQ 24 b) (hab:a≤b) (w:World) :
  Calls prog 119 #[.agg (kC t),.agg (rC a),.agg (rC b)] w (OnP w (mvK a t) (mvK b t)):=by
 have H1:=jX (ydp ht (by omega) ha);have H2:=jX (ydp ht (by omega) hb);have HLi:=jX (fun u=>one_ls (mv_le ht (by omega) ha hb hab) u);have HLr:=jX (fun (u:World) (g:Nat) (h:u.heap[g]? = some (.cells (kC t) 30))=>show (loadVar 30 ⟨g,0,none⟩).run prog u = .ok (.agg (kC t)) u from yaL _ _ _ _ (kAt_box h))
 have HBd:=jX (iv_b01' (mvK a t) (mvK b t));rw [show kv (mvK a t) = .agg (kC (mvK a t)) from rfl,show kv (mvK b t) = .agg (kC (mvK b t)) from rfl] at HBd
 clear ht ha hb hab;generalize mvK a t=lo at *;generalize mvK b t=hi at *;have HE:=jX (rfl:OnP w lo hi=OnP w lo hi);obtain⟨I,hI⟩:∃ I:Iv K,(⟨⟨lo,false⟩,⟨hi,true⟩⟩:Iv K)=I:=⟨_,rfl⟩;unfold OnP;rw [hI] at HBd HLi ⊢;clear hI HE;generalize kC t=T at *;generalize kC lo=TL at *;generalize kC hi=TH at *;go_enter func119,ntmps119
 go_upto_region 1 with (fail)
 obtain⟨W,ga,gb,gc,hW,ega,egb,egc,Bga,Bgb,Bgc,hga,hgb,hgc,hgW,HkW⟩:=al3h w (.cells T 30) (.cells (rC a) 28) (.cells (rC b) 28);rw [← hW];try rw [egc]
 try rw [egb]
 try rw [ega]
 clear hW ega egb egc;have hga:=yaa Bga.out;have hgb:=yaa Bgb.out;have hgc:=yaa Bgc.out;refine yao (S:=fun u=>Below W.heap.size W u) 8 (by kernel_rfl) (by kernel_rfl) (fun _ _ d _ _ h=>by cases d<;>exact h) ?_;have hS0:=(Keep.drew [] W).bz;generalize World.drew W=u at *;refine jG (v:=.agg T) 0 hS0 (fun w hw=>yad _ _ ⟨ga,0,none⟩ _ rfl rfl (HLr.out _ _ ((hw.block ga (by omega)).trans Bga.out))) (fun K hK=>?_);go_simp;refine hK _ ?_;clear hK K;refine jG (v:=.agg (rC a)) 1 hS0 (fun w hw=>yad _ _ ⟨gb,0,none⟩ _ rfl rfl (ybu ((hw.block gb (by omega)).trans Bgb.out))) (fun K hK=>?_);go_simp;refine hK _ ?_;clear hK K;refine jG (v:=.agg T) 3 hS0 (fun w hw=>yad _ _ ⟨ga,0,none⟩ _ rfl rfl (HLr.out _ _ ((hw.block ga (by omega)).trans Bga.out))) (fun K hK=>?_);go_simp;refine hK _ ?_;clear hK K;refine jG (v:=.agg (rC b)) 4 hS0 (fun w hw=>yad _ _ ⟨gc,0,none⟩ _ rfl rfl (ybu ((hw.block gc (by omega)).trans Bgc.out))) (fun K hK=>?_);go_simp;refine hK _ ?_;clear hK K;refine jP 2 (fun K hK=>?_);refine yaf 54 #[.agg T,.agg (rC a)] (by go_simp) ?_;refine (H1.out _).mono ?_;rintro e u2 ⟨rfl,hb⟩;have hb:=hb.bz;have hS0:=hS0.trans (Below.mono hb hS0.size);refine ⟨_,rfl,?_⟩;go_simp;refine hK _ _ hS0 ?_;clear hK K hb;refine jP 5 (fun K hK=>?_);refine yaf 54 #[.agg T,.agg (rC b)] (by go_simp) ?_;refine (H2.out _).mono ?_;rintro e u3 ⟨rfl,hb⟩;have hb:=hb.bz;have hS0:=hS0.trans (Below.mono hb hS0.size);refine ⟨_,rfl,?_⟩;go_simp;refine hK _ _ hS0 ?_;clear hK K hb;refine yhq (v:=iv I) 6 (by rfl) (by decide) (by kernel_rfl) (by kernel_rfl) (by rfl) hS0 (fun w hw=>yas 32 #[(0,.tmp 9),(1,.tmp 12)] #[(0,.agg TL),(1,.agg TH)] (iC I) rfl (by simp only [List.map_toArray,List.map_cons,List.map_nil];rfl) HBd.out) (fun K hK=>?_);go_simp;refine hK _ ?_;clear hK K;refine jP 7 (fun K hK=>?_);refine ybH (.slice (some ⟨u3.heap.size,0,none⟩) 1 1) (u3.alloc (.cells (iC I) 32)) (yaT 22 1 #[(0,.tmp 13)] #[(0,iv I)] _ rfl (by simp only [List.map_toArray,List.map_cons,List.map_nil];rfl) (ybk _ _)) ?_;obtain⟨u4,gl,e3,e4,k3,hl3⟩:=HLi.out u3;rw [e3,e4];have hS0:=hS0.trans (Below.mono k3.bz hS0.size);have Hl3:=jX hl3;clear e3 e4 k3 hl3;go_simp;refine hK _ _ hS0 ?_;clear hK K;refine ⟨by kernel_rfl,?_⟩;simp only [List.drop_succ_cons,List.drop_zero];have HB:=jX (HkW.out.bz.trans (Below.mono hS0 HkW.out.size));clear hS0;go_wp2_with fail;go_ret
 exact ⟨gl,rfl,HB.out,Hl3.out⟩
end
section
open Classical
def HoP (w:World) (r:Bool) (n:Int) (e:Ending) (w':World):Prop:=e = .returned (.tuple #[.bool r,.int .i64 n])∧Below w.heap.size w w'
theorem holds_p (svs:List StV) (ts:List K) (hg:Good (stS svs)) (h1:0<svs.length) (h4:svs.length≤4) (hl:ts.length=svs.length) (hsm:∀ x∈ts,Sm 8 x) (w:World) (sv tv:Value) (hr:StR w sv svs) (ht:KR w tv ts) :
  Calls prog 63 #[sv,tv] w (HoP w (hall (sAt (stS svs)) (tAt ts) svs.length) 0):=by
 have HP:=jX (pchk_c svs hg h1 w sv hr);obtain⟨xa,xc,rfl⟩:=hr.form;obtain⟨ta,tc,rfl,_⟩:=ht.form;rw [hl] at ht ⊢;have HR:=jX hr;have HT:=jX ht;have HG:=jX hg;have HS:=jX hsm;have Hl:=jX hl;have HSt:=jX (StsOk.at _ hg.ok);clear hr ht hg hsm hl;have HE:=jX (rfl:HoP w (hall (sAt (stS svs)) (tAt ts) svs.length) 0=HoP w (hall (sAt (stS svs)) (tAt ts) svs.length) 0);go_enter func63,ntmps63
 go_wp2_with fail;refine HP.out.mono ?_;rintro e w1 ⟨rfl,hb⟩;dsimp only;have HB:=jX hb;have HR:=jX (HR.out.grow hb);have HT:=jX (HT.out.laterB hb);clear hb HP HE;go_wp2_with fail;go_loopw [22] (fun c wr=>∃ k:Nat,k≤svs.length∧c = .int .i64 (k:Int)∧Below w1.heap.size w1 wr∧∀ i,i<k→hstp (sAt (stS svs)) (tAt ts) i=true) (fun c _=>svs.length-(intOf c).toNat)
 case atStart=>exact ⟨0,Nat.zero_le _,rfl,Below.refl _ _,fun i h=>absurd h (by omega)⟩
 case round =>
  obtain⟨k,hk,rfl,hb,hF⟩:=hrel;have HX:=jX hb;have HF:=jX hF;clear hb hF;by_cases hlt:k<svs.length
  ·have hkt:k<ts.length:=by rw [Hl.out];exact hlt
   obtain⟨g,o,rfl,hg,hat⟩:=StR.elem (HR.out.grow HX.out) k hlt;obtain⟨gt,ot,rfl,hgt,hatt⟩:=KR.elem (HT.out.laterB HX.out) k hkt;have hx:svs[k]∈svs:=List.getElem_mem hlt;have hsk:=ybF hlt;have htk:=tAt_get hkt;have Hlx:=jX ((HR.out.grow HX.out).ls hx);have hsmt:=HS.out _ (List.getElem_mem hkt);have hgx:FitQ 24 svs[k].s.g:=by rw [← hsk];exact ycG (HSt.out.g k)
   have hga:FitQ 24 svs[k].s.a:=by rw [← hsk];exact ycG (HSt.out.a k)
   have hgb:FitQ 24 svs[k].s.b:=by rw [← hsk];exact ycG (HSt.out.b k)
   have hpos:=HG.out.pos _ (List.mem_map_of_mem hx);have hpos1:0≤svs[k].s.g:=hpos.1;have hpos2:svs[k].s.a≤svs[k].s.b:=hpos.2;have hkc:(k:Int)<(svs.length:Int):=by omega
   have Hst:Hid (hstp (sAt (stS svs)) (tAt ts) k=(decide (combK 3 [(⟨⟨ts[k],false⟩,⟨mvK svs[k].s.g ts[k],true⟩⟩:Iv K)] svs[k].s.d=[])&&(decide (k=0) || (decide (mvK svs[k].s.a (mvK (sAt (stS svs) (k-1)).g (tAt ts (k-1)))≤ts[k])&&decide (ts[k]≤mvK svs[k].s.b (mvK (sAt (stS svs) (k-1)).g (tAt ts (k-1)))))))):=jX (by
    unfold hstp
    rw [hsk,htk])
   generalize svs[k]=x at *;generalize ts[k]=t at *;obtain⟨p,hp⟩:∃ p,o+k*13=p:=⟨_,rfl⟩;obtain⟨q,hq⟩:∃ q,ot+k*9=q:=⟨_,rfl⟩;rw [hp] at hat;rw [hq] at hatt;have Hq:=jX hq;have HL:=jX (ydH wr g p x hat);have HLt:=jX (fun (u:World) (h:u.heap[gt]? = wr.heap[gt]?)=>show (loadVar 30 ⟨gt,q,none⟩).run prog u = .ok (.agg (kC t)) u from yaL _ _ _ _ (hatt.keep h))
   have H1:=jX (ydp hsmt (by decide) hgx);have HLi:=jX (fun u=>one_ls (mv_ge hsmt (by decide) hgx hpos1) u);have HBd:=jX (iv_b01' t (mvK x.s.g t));rw [show kv t = .agg (kC t) from rfl,show kv (mvK x.s.g t) = .agg (kC (mvK x.s.g t)) from rfl] at HBd
   have HCv:=jX (fun u v y (h:Ls u [(v,x.s.d),(y,[(⟨⟨t,false⟩,⟨mvK x.s.g t,true⟩⟩:Iv K)])])=>h.cov (List.mem_cons_self ..) (List.mem_cons_of_mem _ (List.mem_cons_self ..)));have Hsmt:=jX hsmt;have Hfa:=jX hga;have Hfb:=jX hgb;have Hab:=jX hpos2;obtain⟨cv,hcv⟩:∃ cv,decide (combK 3 [(⟨⟨t,false⟩,⟨mvK x.s.g t,true⟩⟩:Iv K)] x.s.d=[])=cv:=⟨_,rfl⟩;rw [hcv] at HCv Hst;clear hcv hx hsk htk hsmt hgx hga hgb hpos hpos1 hpos2 hat;obtain⟨I,hI⟩:∃ I:Iv K,(⟨⟨t,false⟩,⟨mvK x.s.g t,true⟩⟩:Iv K)=I:=⟨_,rfl⟩;rw [hI] at HBd HLi HCv;clear hI;generalize kC (mvK x.s.g t)=TH at *;obtain⟨T,hT⟩:∃ T,kC t=T:=⟨_,rfl⟩;rw [hT] at HLt H1 HBd;have HTt:=jX hT;clear hT;have hxv:x.v = .slice x.a x.s.d.length x.c:=rfl;rw [hxv] at Hlx;clear hxv;go_upto_region 8 with (fail)
   refine wp_region_lit ?_;refine' yab (v:=_) (by rfl) (?hc) (fun K hK=>?kc)
   case hc=>(go_simp;try rfl)
   go_simp;refine hK _ _ ?_;clear hK K;refine' yab (v:=_) (by rfl) (?hd) (fun K hK=>?kd)
   case hd=>(go_simp;try rfl)
   go_simp;refine hK _ _ ?_;clear hK K;refine yab (v:=.agg x.C) (by rfl) (yad _ _ ⟨g,p,none⟩ _ rfl rfl HL.out) (fun K hK=>?_);go_simp;refine hK _ _ ?_;clear hK K;obtain⟨w3,gs,e1,e2,bgs,hgs,_,hk1⟩:=al1 wr (.cells #[.slice none 0 0,.bool false,.string ⟨#[]⟩,.bool false,.string ⟨#[]⟩,.bool false,.string ⟨#[]⟩,.bool false,.string ⟨#[]⟩,.bool false,.string ⟨#[]⟩,.bool false,.string ⟨#[]⟩] 65);refine yam (v:=.pointer (some ⟨wr.heap.size,0,none⟩)) (w':=wr.alloc (.cells #[.slice none 0 0,.bool false,.string ⟨#[]⟩,.bool false,.string ⟨#[]⟩,.bool false,.string ⟨#[]⟩,.bool false,.string ⟨#[]⟩,.bool false,.string ⟨#[]⟩,.bool false,.string ⟨#[]⟩] 65)) (by rfl) (al_st _ _ _ rfl) (fun K hK=>?_);rw [← e1,e2];clear e1;go_simp;refine hK _ _ ?_;clear hK K;refine' yab (v:=_) (by rfl) (?he) (fun K hK=>?ke)
   case he=>(go_simp;try rfl)
   go_simp;refine hK _ _ ?_;clear hK K;refine yah (by rfl) _ _ _ rfl gs x.C rfl rfl _ _ bgs (by exact yeS x) (by rfl) x.ones (fun K hK=>?_);obtain⟨w4,e4,b4,k4⟩:=yai (cs:=x.C) bgs;rw [e4];go_simp;refine hK _ _ ?_;clear hK K e4 HL;have hkk:=(show Keep [] wr w4 from hk1.trans k4 (by simp;omega)).bz
   have HX:=jX (HX.out.trans (Below.mono hkk HX.out.size));have Bgs:=jX b4;have Hlx:=jX (Hlx.out.grow hkk);have Ht4:=jX (hkk.block gt hgt);have hgt4:gt<w4.heap.size:=Nat.lt_of_lt_of_le hgt hkk.size;clear hk1 k4 b4 bgs e2 hgs hkk hg;go_upto_region 9 with (fail)
   have hgs4:=yaa Bgs.out;refine yao (S:=fun u=>Below w4.heap.size w4 u) 13 (by kernel_rfl) (by kernel_rfl) (fun _ _ d _ _ h=>by cases d<;>exact h) ?_;have hS0:=(Keep.drew [] w4).bz;generalize World.drew w4=u at *;refine' jG (v:=_) 0 hS0 (fun w hw=>?hha0) (fun K hK=>?kha0)
   case hha0=>(go_simp;try rfl)
   go_simp;refine hK _ ?_;clear hK K;refine' jG (v:=_) 1 hS0 (fun w hw=>?hha1) (fun K hK=>?kha1)
   case hha1=>(go_simp;try rfl)
   go_simp;refine hK _ ?_;clear hK K;refine' jG (v:=_) 2 hS0 (fun w hw=>?hha2) (fun K hK=>?kha2)
   case hha2=>(go_simp;try rfl)
   go_simp;refine hK _ ?_;clear hK K;refine jG (v:=.agg T) 3 hS0 (fun w hw=>yad _ _ ⟨gt,q,none⟩ _ rfl rfl (HLt.out _ ((hw.block gt hgt4).trans Ht4.out))) (fun K hK=>?_);go_simp;refine hK _ ?_;clear hK K;refine' jG (v:=_) 4 hS0 (fun w hw=>?hha4) (fun K hK=>?kha4)
   case hha4=>(go_simp;try rfl)
   go_simp;refine hK _ ?_;clear hK K;refine' jG (v:=_) 5 hS0 (fun w hw=>?hha5) (fun K hK=>?kha5)
   case hha5=>(go_simp;try rfl)
   go_simp;refine hK _ ?_;clear hK K;refine' jG (v:=_) 6 hS0 (fun w hw=>?hha6) (fun K hK=>?kha6)
   case hha6=>(go_simp;try rfl)
   go_simp;refine hK _ ?_;clear hK K;refine jG (v:=.agg T) 7 hS0 (fun w hw=>yad _ _ ⟨gt,q,none⟩ _ rfl rfl (HLt.out _ ((hw.block gt hgt4).trans Ht4.out))) (fun K hK=>?_);go_simp;refine hK _ ?_;clear hK K;refine' jG (v:=_) 8 hS0 (fun w hw=>?hha8) (fun K hK=>?kha8)
   case hha8=>(go_simp;try rfl)
   go_simp;refine hK _ ?_;clear hK K;refine jG (v:=.agg (rC x.s.g)) 9 hS0 (fun w hw=>yad _ _ ⟨gs,0+1,none⟩ _ rfl rfl (ybl ((hw.block gs hgs4).trans Bgs.out)).lg) (fun K hK=>?_);go_simp;refine hK _ ?_;clear hK K;refine jP 10 (fun K hK=>?_);refine yaf 54 #[.agg T,.agg (rC x.s.g)] (by go_simp) ?_;refine (H1.out _).mono ?_;rintro e u2 ⟨rfl,hb⟩;have hb:=hb.bz;have hS0:=hS0.trans (Below.mono hb hS0.size);refine ⟨_,rfl,?_⟩;go_simp;refine hK _ _ hS0 ?_;clear hK K hb;refine yhq (v:=iv I) 11 (by rfl) (by decide) (by kernel_rfl) (by kernel_rfl) (by rfl) hS0 (fun w hw=>yas 32 #[(0,.tmp 30),(1,.tmp 37)] #[(0,.agg T),(1,.agg TH)] (iC I) rfl (by simp only [List.map_toArray,List.map_cons,List.map_nil];rfl) HBd.out) (fun K hK=>?_);go_simp;refine hK _ ?_;clear hK K;refine jP 12 (fun K hK=>?_);refine ybH (.slice (some ⟨u2.heap.size,0,none⟩) 1 1) (u2.alloc (.cells (iC I) 32)) (yaT 22 1 #[(0,.tmp 38)] #[(0,iv I)] _ rfl (by simp only [List.map_toArray,List.map_cons,List.map_nil];rfl) (ybk _ _)) ?_;obtain⟨u3,gl,e3,e4,k3,hl3⟩:=HLi.out u2;rw [e3,e4];have hS0:=hS0.trans (Below.mono k3.bz hS0.size);have Hl3:=jX hl3;clear e3 e4 k3 hl3;go_simp;refine hK _ _ hS0 ?_;clear hK K;refine ⟨by kernel_rfl,?_⟩;simp only [List.drop_succ_cons,List.drop_zero];have HX:=jX (HX.out.trans (Below.mono hS0 HX.out.size));have Bgs:=jX ((hS0.block gs hgs4).trans Bgs.out);have Hlx:=jX (Hlx.out.grow hS0);have Ht5:=jX ((hS0.block gt hgt4).trans Ht4.out);have hgt5:gt<u3.heap.size:=Nat.lt_of_lt_of_le hgt4 hS0.size;clear hS0 HLi HBd H1 hgs4 Ht4 hgt4;have pd:u3.cell? ⟨gs,0,none⟩=some (.slice x.a x.s.d.length x.c):=(ybl Bgs.out).d0;go_upto_region 10 with (fail)
   refine wp_region_lit ?_;refine' yab (v:=_) (by rfl) (?hra) (fun K hK=>?kra)
   case hra=>(go_simp;try rfl)
   go_simp;refine hK _ _ ?_;clear hK K;refine' yab (v:=_) (by rfl) (?hrb) (fun K hK=>?krb)
   case hrb=>(go_simp;try rfl)
   go_simp;refine hK _ _ ?_;clear hK K;refine' yab (v:=_) (by rfl) (?hrc) (fun K hK=>?krc)
   case hrc=>(go_simp;try rfl)
   go_simp;refine hK _ _ ?_;clear hK K;refine wpList_plain (by rfl) (fun K hK=>?_);refine yaf 50 #[.slice x.a x.s.d.length x.c,.slice (some ⟨gl,0,none⟩) 1 1] (by go_simp) ?_;refine (HCv.out _ _ _ (Hlx.out.one Hl3.out)).mono ?_;rintro e9 w5 ⟨rfl,hb⟩;refine ⟨_,rfl,?_⟩;go_simp;refine hK _ _ ?_;clear hK K;have HX:=jX (HX.out.trans (Below.mono hb HX.out.size));have Bgs:=jX ((hb.block gs (yaa Bgs.out)).trans Bgs.out);have Ht5:=jX ((hb.block gt hgt5).trans Ht5.out);have hgt5:gt<w5.heap.size:=Nat.lt_of_lt_of_le hgt5 hb.size;clear hb HCv Hlx Hl3 pd;cases cv with
   | false =>
    rw [Bool.false_and] at Hst;have Hno:=jX (hall_no hlt Hst.out);have HB:=jX (HB.out.trans (Below.mono HX.out HB.out.size));go_wp2_with fail;go_ret2
    exact ⟨by rw [Hno.out];rfl,HB.out⟩
   | true =>
    rw [Bool.true_and] at Hst;by_cases hk0:k=0
    ·rw [decide_eq_true hk0,Bool.true_or] at Hst
     have hgt0:¬ (0:Int)<(k:Int):=by omega
     go_upto_region 12 with (fail)
     refine yao (S:=fun u=>Below w5.heap.size w5 u) 26 (by kernel_rfl) (by kernel_rfl) (fun _ _ d _ _ h=>by cases d<;>exact h) ?_;have hS0:=(Keep.drew [] w5).bz;generalize World.drew w5=u6 at *;refine' jG (v:=_) 0 hS0 (fun w hw=>?hhb0) (fun K hK=>?khb0)
     case hhb0=>(go_simp;try rfl)
     go_simp;refine hK _ ?_;clear hK K;refine' jG (v:=_) 1 hS0 (fun w hw=>?hhb1) (fun K hK=>?khb1)
     case hhb1=>(go_simp;try rfl)
     go_simp;refine hK _ ?_;clear hK K;refine' jG (v:=_) 2 hS0 (fun w hw=>?hhb2) (fun K hK=>?khb2)
     case hhb2=>(go_simp;try rfl)
     go_simp;refine hK _ ?_;clear hK K;refine jS 3 hS0 (fun K hK=>?_);go_simp;refine hK _ ?_;clear hK K;refine jS 4 hS0 (fun K hK=>?_);go_simp;refine hK _ ?_;clear hK K;refine jS 5 hS0 (fun K hK=>?_);go_simp;refine hK _ ?_;clear hK K;refine jS 6 hS0 (fun K hK=>?_);go_simp;refine hK _ ?_;clear hK K;refine jS 7 hS0 (fun K hK=>?_);go_simp;refine hK _ ?_;clear hK K;refine jS 8 hS0 (fun K hK=>?_);go_simp;refine hK _ ?_;clear hK K;refine jS 9 hS0 (fun K hK=>?_);go_simp;refine hK _ ?_;clear hK K;refine jS 10 hS0 (fun K hK=>?_);go_simp;refine hK _ ?_;clear hK K;refine jS 11 hS0 (fun K hK=>?_);go_simp;refine hK _ ?_;clear hK K;refine jS 12 hS0 (fun K hK=>?_);go_simp;refine hK _ ?_;clear hK K;refine jS 13 hS0 (fun K hK=>?_);go_simp;refine hK _ ?_;clear hK K;refine jS 14 hS0 (fun K hK=>?_);go_simp;refine hK _ ?_;clear hK K;refine jS 15 hS0 (fun K hK=>?_);go_simp;refine hK _ ?_;clear hK K;refine jS 16 hS0 (fun K hK=>?_);go_simp;refine hK _ ?_;clear hK K;refine jS 17 hS0 (fun K hK=>?_);go_simp;refine hK _ ?_;clear hK K;refine jS 18 hS0 (fun K hK=>?_);go_simp;refine hK _ ?_;clear hK K;refine jS 19 hS0 (fun K hK=>?_);go_simp;refine hK _ ?_;clear hK K;refine jS 20 hS0 (fun K hK=>?_);go_simp;refine hK _ ?_;clear hK K;refine jS 21 hS0 (fun K hK=>?_);go_simp;refine hK _ ?_;clear hK K;refine jS 22 hS0 (fun K hK=>?_);go_simp;refine hK _ ?_;clear hK K;refine jS 23 hS0 (fun K hK=>?_);go_simp;refine hK _ ?_;clear hK K;refine jS 24 hS0 (fun K hK=>?_);go_simp;refine hK _ ?_;clear hK K;refine jS 25 hS0 (fun K hK=>?_);go_simp;refine hK _ ?_;clear hK K;refine ⟨by kernel_rfl,?_⟩;simp only [List.drop_succ_cons,List.drop_zero];have HX:=jX (HX.out.trans (Below.mono hS0 HX.out.size));clear hS0;go_wp2_with fail;go_roundw
     case rel=>exact ⟨k+1,by omega,congrArg (Value.int .i64) (by omega),HX.out,fun i hi=>by
      by_cases h:i<k
      ·exact HF.out i h
      rw [show i=k by omega];exact Hst.out⟩
     case measure=>simp [intOf];omega
    rw [decide_eq_false hk0,Bool.false_or] at Hst;have hgt0:(0:Int)<(k:Int):=by omega
    have hgt1:0<k:=by omega
    obtain⟨j,hj⟩:∃ j,k=j+1:=⟨k-1,by omega⟩;have hjl:j<svs.length:=by omega
    have hjt:j<ts.length:=by rw [Hl.out];omega
    have hsub:IntKind.i64.wrap ((k:Int)-1)=(j:Int):=by rw [show (k:Int)-1=(j:Int) by omega];exact IntWalk.i64_in _ (by omega)
    have hj1:(j:Int)<(svs.length:Int):=by omega
    have hj0:(0:Int)≤(j:Int):=by omega
    rw [show k-1=j by omega,ybF hjl,tAt_get hjt] at Hst
    have Hj:=jX hj;clear hj;obtain⟨g',o',hge,hg5,hatj⟩:=StR.elem (HR.out.grow HX.out) j hjl;obtain⟨rfl,rfl⟩:g'=g∧o'=o:=by injection hge with hge;injection hge with h1 h2;exact ⟨h1.symm,h2.symm⟩
    obtain⟨gt',ot',hgte,_,hattj⟩:=KR.elem (HT.out.laterB HX.out) j hjt;obtain⟨rfl,rfl⟩:gt'=gt∧ot'=ot:=by injection hgte with hge;injection hge with h1 h2;exact ⟨h1.symm,h2.symm⟩
    have hsj:=ybF hjl;have hgj:FitQ 24 svs[j].s.g:=by rw [← hsj];exact ycG (HSt.out.g j)
    have hsmj:=HS.out _ (List.getElem_mem hjt);generalize svs[j]=y at *;generalize ts[j]=tj at *;obtain⟨pj,hpj⟩:∃ pj,o'+j*13=pj:=⟨_,rfl⟩;obtain⟨qj,hqj⟩:∃ qj,ot'+j*9=qj:=⟨_,rfl⟩;rw [hpj] at hatj;rw [hqj] at hattj;have Hatj:=jX hatj;have HLj:=jX (fun (u:World) (h:u.heap[gt']? = w5.heap[gt']?)=>show (loadVar 30 ⟨gt',qj,none⟩).run prog u = .ok (.agg (kC tj)) u from yaL _ _ _ _ (hattj.keep h))
    have H1:=jX (ydp hsmj (by decide) hgj);have hsb:Sm 33 (mvK y.s.g tj):=yeq hsmj (by decide) hgj;have H2:=jX (within_p 33 (by decide) (mvK y.s.g tj) hsb x.s.a x.s.b Hfa.out Hfb.out Hab.out);have HCn:=jX (fun u v (h:Ls u [(v,[(⟨⟨mvK x.s.a (mvK y.s.g tj),false⟩,⟨mvK x.s.b (mvK y.s.g tj),true⟩⟩:Iv K)])])=>h.cont (List.mem_singleton.2 rfl) t);rw [holds_one,show kv t = .agg (kC t) from rfl,HTt.out] at HCn
    obtain⟨cn,hcn⟩:∃ cn,(decide (mvK x.s.a (mvK y.s.g tj)≤t)&&decide (t≤mvK x.s.b (mvK y.s.g tj)))=cn:=⟨_,rfl⟩;rw [hcn] at HCn Hst;clear hcn hatj hattj hge hgte hsj hgj hsmj hsb;generalize mvK y.s.g tj=bf at *;generalize kC tj=TJ at *;generalize kC bf=BF at *;have hgs5:=yaa Bgs.out;go_upto_region 12 with (fail)
    refine yao (S:=fun u=>Below w5.heap.size w5 u) 26 (by kernel_rfl) (by kernel_rfl) (fun _ _ d _ _ h=>by cases d<;>exact h) ?_;have hS0:=(Keep.drew [] w5).bz;generalize World.drew w5=u6 at *;refine' jG (v:=_) 0 hS0 (fun w hw=>?hhc0) (fun K hK=>?khc0)
    case hhc0=>(go_simp;try rfl)
    go_simp;refine hK _ ?_;clear hK K;refine' jG (v:=_) 1 hS0 (fun w hw=>?hhc1) (fun K hK=>?khc1)
    case hhc1=>(go_simp;try rfl)
    go_simp;refine hK _ ?_;clear hK K;refine' jG (v:=_) 2 hS0 (fun w hw=>?hhc2) (fun K hK=>?khc2)
    case hhc2=>(go_simp;try rfl)
    go_simp;refine hK _ ?_;clear hK K;refine' jG (v:=_) 3 hS0 (fun w hw=>?hhc3) (fun K hK=>?khc3)
    case hhc3=>(go_simp;try rfl)
    go_simp;refine hK _ ?_;clear hK K;refine' jG (v:=_) 4 hS0 (fun w hw=>?hhc4) (fun K hK=>?khc4)
    case hhc4=>(go_simp;try rfl)
    go_simp;refine hK _ ?_;clear hK K;refine' jG (v:=_) 5 hS0 (fun w hw=>?hhc5) (fun K hK=>?khc5)
    case hhc5=>(go_simp;try rfl)
    go_simp;refine hK _ ?_;clear hK K;refine' jG (v:=_) 6 hS0 (fun w hw=>?hhc6) (fun K hK=>?khc6)
    case hhc6=>(go_simp;try rfl)
    go_simp;refine hK _ ?_;clear hK K;refine jG (v:=.agg TJ) 7 hS0 (fun w hw=>yad _ _ ⟨gt',qj,none⟩ _ rfl rfl (HLj.out _ (hw.block gt' hgt5))) (fun K hK=>?_);go_simp;refine hK _ ?_;clear hK K;refine' jG (v:=_) 8 hS0 (fun w hw=>?hhc8) (fun K hK=>?khc8)
    case hhc8=>(go_simp;try rfl)
    go_simp;refine hK _ ?_;clear hK K;refine' jG (v:=_) 9 hS0 (fun w hw=>?hhc9) (fun K hK=>?khc9)
    case hhc9=>(go_simp;try rfl)
    go_simp;refine hK _ ?_;clear hK K;refine' jG (v:=_) 10 hS0 (fun w hw=>?hhc10) (fun K hK=>?khc10)
    case hhc10=>(go_simp;try rfl)
    go_simp;refine hK _ ?_;clear hK K;refine' jG (v:=_) 11 hS0 (fun w hw=>?hhc11) (fun K hK=>?khc11)
    case hhc11=>(go_simp;try rfl)
    go_simp;refine hK _ ?_;clear hK K;refine' jG (v:=_) 12 hS0 (fun w hw=>?hhc12) (fun K hK=>?khc12)
    case hhc12=>(go_simp;try rfl)
    go_simp;refine hK _ ?_;clear hK K;refine jG (v:=.agg (rC y.s.g)) 13 hS0 (fun w hw=>yad _ _ ⟨g',pj+1,none⟩ _ rfl rfl ((Hatj.out.keep (hw.block g' hg5)).lg)) (fun K hK=>?_);go_simp;refine hK _ ?_;clear hK K;refine' jG (v:=_) 15 hS0 (fun w hw=>?hhc15) (fun K hK=>?khc15)
    case hhc15=>(go_simp;try rfl)
    go_simp;refine hK _ ?_;clear hK K;refine jG (v:=.agg (rC x.s.a)) 16 hS0 (fun w hw=>yad _ _ ⟨gs,0+5,none⟩ _ rfl rfl (ybl ((hw.block gs hgs5).trans Bgs.out)).la) (fun K hK=>?_);go_simp;refine hK _ ?_;clear hK K;refine' jG (v:=_) 17 hS0 (fun w hw=>?hhc17) (fun K hK=>?khc17)
    case hhc17=>(go_simp;try rfl)
    go_simp;refine hK _ ?_;clear hK K;refine jG (v:=.agg (rC x.s.b)) 18 hS0 (fun w hw=>yad _ _ ⟨gs,0+9,none⟩ _ rfl rfl (ybl ((hw.block gs hgs5).trans Bgs.out)).lb) (fun K hK=>?_);go_simp;refine hK _ ?_;clear hK K;refine' jG (v:=_) 20 hS0 (fun w hw=>?hhc20) (fun K hK=>?khc20)
    case hhc20=>(go_simp;try rfl)
    go_simp;refine hK _ ?_;clear hK K;refine' jG (v:=_) 21 hS0 (fun w hw=>?hhc21) (fun K hK=>?khc21)
    case hhc21=>(go_simp;try rfl)
    go_simp;refine hK _ ?_;clear hK K;refine' jG (v:=_) 22 hS0 (fun w hw=>?hhc22) (fun K hK=>?khc22)
    case hhc22=>(go_simp;try rfl)
    go_simp;refine hK _ ?_;clear hK K;refine jG (v:=.agg T) 23 hS0 (fun w hw=>yad _ _ ⟨gt',q,none⟩ _ rfl rfl (HLt.out _ ((hw.block gt' hgt5).trans Ht5.out))) (fun K hK=>?_);go_simp;refine hK _ ?_;clear hK K;refine jP 14 (fun K hK=>?_);refine yaf 54 #[.agg TJ,.agg (rC y.s.g)] (by go_simp) ?_;refine (H1.out _).mono ?_;rintro e u7 ⟨rfl,hb⟩;have hb:=hb.bz;have hS0:=hS0.trans (Below.mono hb hS0.size);refine ⟨_,rfl,?_⟩;go_simp;refine hK _ _ hS0 ?_;clear hK K hb;refine jP 19 (fun K hK=>?_);refine yaf 119 #[.agg BF,.agg (rC x.s.a),.agg (rC x.s.b)] (by go_simp) ?_;refine (H2.out _).mono ?_;rintro e u8 ⟨gw,rfl,hb,hlw⟩;have hS0:=hS0.trans (Below.mono hb hS0.size);refine ⟨_,rfl,?_⟩;go_simp;refine hK _ _ hS0 ?_;clear hK K;refine jP 24 (fun K hK=>?_);refine yaf 56 #[.slice (some ⟨gw,0,none⟩) 1 1,.agg T] (by go_simp) ?_;refine (HCn.out _ _ hlw).mono ?_;rintro e u9 ⟨rfl,hb⟩;have hS0:=hS0.trans (Below.mono hb hS0.size);refine ⟨_,rfl,?_⟩;go_simp;refine hK _ _ hS0 ?_;clear hK K;refine' jG (v:=_) 25 hS0 (fun w hw=>?hhc25) (fun K hK=>?khc25)
    case hhc25=>(go_simp;try rfl)
    go_simp;refine hK _ ?_;clear hK K;refine ⟨by kernel_rfl,?_⟩;simp only [List.drop_succ_cons,List.drop_zero];have HX:=jX (HX.out.trans (Below.mono hS0 HX.out.size));clear hS0 hb hlw H1 H2 HCn HLj Hatj hgs5;cases cn with
    | false =>
     have Hno:=jX (hall_no hlt Hst.out);have HB:=jX (HB.out.trans (Below.mono HX.out HB.out.size));go_wp2_with fail;go_ret2
     exact ⟨by rw [Hno.out];rfl,HB.out⟩
    | true =>
     go_wp2_with fail;go_roundw
     case rel=>exact ⟨k+1,by omega,congrArg (Value.int .i64) (by omega),HX.out,fun i hi=>by
      by_cases h:i<k
      ·exact HF.out i h
      rw [show i=k by omega];exact Hst.out⟩
     case measure=>simp [intOf];omega
  have hkn:k=svs.length:=by omega
  have hkc:¬ ((k:Int)<(svs.length:Int)):=by omega
  have Hy:=jX (hall_yes (s:=sAt (stS svs)) (t:=tAt ts) (n:=svs.length) (fun i hi=>HF.out i (by omega)));have HB:=jX (HB.out.trans (Below.mono HX.out HB.out.size));clear HF hkn;go_wp2_with fail;go_ret2
  exact ⟨by rw [Hy.out];rfl,HB.out⟩
end
section
open Classical
theorem al_rlN (ev:Operand→Value) (w:World) (o:Oper) (ho:o.op = .alloc 30):(execOp ev o).run prog w = .ok (.value (.pointer (some ⟨w.heap.size,0,none⟩))) (w.alloc (.cells #[.bool false,.string ⟨#[]⟩,.bool false,.string ⟨#[]⟩,.bool false,.string ⟨#[]⟩,.bool false,.string ⟨#[]⟩,.bool false] 30)):=by
 unfold execOp;simp only [ho];go_simp
theorem cmp_lt0 (x y:K):(cmpQ x.1 y.1<0)↔x<y:=by
 rcases K.tri x y with ⟨h,k⟩|⟨h,k⟩|⟨h,k⟩<;>rw [h]<;>constructor<;>intro q<;>first|decide|grind
theorem cmp_gt0 (x y:K):(0<cmpQ x.1 y.1)↔y<x:=by
 rcases K.tri x y with ⟨h,k⟩|⟨h,k⟩|⟨h,k⟩<;>rw [h]<;>constructor<;>intro q<;>first|decide|grind
theorem rholds_c (svs:List StV) (ts:List K) (hg:Good (stS svs)) (h1:0<svs.length) (h4:svs.length≤4) (hl:ts.length=svs.length) (hsm:∀ x∈ts,Sm 8 x) (w:World) (sv tv:Value) (hr:StR w sv svs) (ht:KR w tv ts) :
  Calls prog 64 #[sv,tv] w (BPost w (hall (sAt (stS svs)) (tAt ts) svs.length)):=by
 obtain⟨xa,xc,rfl⟩:=hr.form;obtain⟨ta,tc,rfl,_⟩:=ht.form;rw [hl] at ht ⊢;have HR:=jX hr;have HT:=jX ht;have HG:=jX hg;have HS:=jX hsm;have Hl:=jX hl;have HSt:=jX (StsOk.at _ hg.ok);clear hr ht hg hsm hl;have HE:=jX (rfl:BPost w (hall (sAt (stS svs)) (tAt ts) svs.length)=BPost w (hall (sAt (stS svs)) (tAt ts) svs.length));go_enter func64,ntmps64
 go_wp2_with fail;go_loopw [5] (fun c wr=>∃ k:Nat,k≤svs.length∧c = .int .i64 (k:Int)∧Below w.heap.size w wr∧∀ i,i<k→hstp (sAt (stS svs)) (tAt ts) i=true) (fun c _=>svs.length-(intOf c).toNat)
 case atStart=>exact ⟨0,Nat.zero_le _,rfl,Below.refl _ _,fun i h=>absurd h (by omega)⟩
 case round =>
  obtain⟨k,hk,rfl,hb,hF⟩:=hrel;have HX:=jX hb;have HF:=jX hF;clear hb hF;by_cases hlt:k<svs.length
  ·have hkt:k<ts.length:=by rw [Hl.out];exact hlt
   obtain⟨g,o,rfl,hg,hat⟩:=StR.elem (HR.out.grow HX.out) k hlt;obtain⟨gt,ot,rfl,hgt,hatt⟩:=KR.elem (HT.out.laterB HX.out) k hkt;have hx:svs[k]∈svs:=List.getElem_mem hlt;have hsk:=ybF hlt;have htk:=tAt_get hkt;have Hlx:=jX ((HR.out.grow HX.out).ls hx);have hsmt:=HS.out _ (List.getElem_mem hkt);have hgx:FitQ 24 svs[k].s.g:=by rw [← hsk];exact ycG (HSt.out.g k)
   have hga:FitQ 24 svs[k].s.a:=by rw [← hsk];exact ycG (HSt.out.a k)
   have hgb:FitQ 24 svs[k].s.b:=by rw [← hsk];exact ycG (HSt.out.b k)
   have hpos:=HG.out.pos _ (List.mem_map_of_mem hx);have hpos1:0≤svs[k].s.g:=hpos.1;have hkc:(k:Int)<(svs.length:Int):=by omega
   have Hst:Hid (hstp (sAt (stS svs)) (tAt ts) k=(decide (combK 3 [(⟨⟨ts[k],false⟩,⟨mvK svs[k].s.g ts[k],true⟩⟩:Iv K)] svs[k].s.d=[])&&(decide (k=0) || (decide (mvK svs[k].s.a (mvK (sAt (stS svs) (k-1)).g (tAt ts (k-1)))≤ts[k])&&decide (ts[k]≤mvK svs[k].s.b (mvK (sAt (stS svs) (k-1)).g (tAt ts (k-1)))))))):=jX (by
    unfold hstp
    rw [hsk,htk])
   generalize svs[k]=x at *;generalize ts[k]=t at *;obtain⟨p,hp⟩:∃ p,o+k*13=p:=⟨_,rfl⟩;obtain⟨q,hq⟩:∃ q,ot+k*9=q:=⟨_,rfl⟩;rw [hp] at hat;rw [hq] at hatt;have Hat:=jX hat;have HPd:Hid (∀ u:World,u.heap[g]? = wr.heap[g]? → u.cell? ⟨g,p,none⟩=some (.slice x.a x.s.d.length x.c)):=jX fun u h=>(hat.keep h).d0;have HLt:=jX (fun (u:World) (h:u.heap[gt]? = wr.heap[gt]?)=>show (loadVar 30 ⟨gt,q,none⟩).run prog u = .ok (.agg (kC t)) u from yaL _ _ _ _ (hatt.keep h))
   have H1:=jX (ydp hsmt (by decide) hgx);have HLi:=jX (fun u=>one_ls (mv_ge hsmt (by decide) hgx hpos1) u);have HBd:=jX (iv_b01' t (mvK x.s.g t));rw [show kv t = .agg (kC t) from rfl,show kv (mvK x.s.g t) = .agg (kC (mvK x.s.g t)) from rfl] at HBd
   have HCv:=jX (fun u v y (h:Ls u [(v,x.s.d),(y,[(⟨⟨t,false⟩,⟨mvK x.s.g t,true⟩⟩:Iv K)])])=>h.cov (List.mem_cons_self ..) (List.mem_cons_of_mem _ (List.mem_cons_self ..)));have Hfa:=jX hga;have Hfb:=jX hgb;obtain⟨cv,hcv⟩:∃ cv,decide (combK 3 [(⟨⟨t,false⟩,⟨mvK x.s.g t,true⟩⟩:Iv K)] x.s.d=[])=cv:=⟨_,rfl⟩;rw [hcv] at HCv Hst;clear hcv hx hsk htk hsmt hgx hga hgb hpos hpos1 hat;obtain⟨I,hI⟩:∃ I:Iv K,(⟨⟨t,false⟩,⟨mvK x.s.g t,true⟩⟩:Iv K)=I:=⟨_,rfl⟩;rw [hI] at HBd HLi HCv;clear hI;have HSz:Hid ((kC (mvK x.s.g t)).size=9∧(kC (mvK x.s.g t)).all (·.oneCell')=true):=jX ⟨(ybm _).2.1,(ybm _).2.2⟩;have HLh:=jX (fun (u:World) (h:Nat) (hh:u.heap[h]? = some (.cells (kC (mvK x.s.g t)) 30))=>show (loadVar 30 ⟨h,0,none⟩).run prog u = .ok (.agg (kC (mvK x.s.g t))) u from yaL _ _ _ _ (kAt_box hh))
   generalize kC (mvK x.s.g t)=TH at *;obtain⟨T,hT⟩:∃ T,kC t=T:=⟨_,rfl⟩;rw [hT] at HLt H1 HBd;have HTt:=jX hT;clear hT;have hxv:x.v = .slice x.a x.s.d.length x.c:=rfl;rw [hxv] at Hlx;clear hxv;go_upto_region 4 with (fail)
   refine yaz 11 [(6,30)] (fun _=>.cells #[.bool false,.string ⟨#[]⟩,.bool false,.string ⟨#[]⟩,.bool false,.string ⟨#[]⟩,.bool false,.string ⟨#[]⟩,.bool false] 30) (by kernel_rfl) (by kernel_rfl) (by kernel_rfl) (fun t ht ev w o ho=>by simp at ht;subst ht;exact al_rlN ev w o ho) ?_;intro U hU;have L1:∀ m:KW U,(loadVar 30 ⟨gt,q,none⟩).run prog (Wk U m) = .ok (.agg T) (Wk U m):=fun m=>HLt.out _ ((m.k.block gt (Nat.lt_of_lt_of_le hgt hU.size) (by simp)).trans (hU.block gt hgt (by simp)));have L2:∀ m:KW U,(loadVar 28 ⟨g,p+1,none⟩).run prog (Wk U m) = .ok (.agg (rC x.s.g)) (Wk U m):=fun m=>(Hat.out.keep ((m.k.block g (Nat.lt_of_lt_of_le hg hU.size) (by simp)).trans (hU.block g hg (by simp)))).lg;have Q1:Hid (∀ m:KW U,Calls prog 54 #[.agg T,.agg (rC x.s.g)] (Wk U m) fun e w'=>e = .returned (.agg TH)∧∃ m,w'=Wk U m):=fun m=>qk m (H1.out _);simp only [List.map_cons,List.map_nil,unal,isAl,if_true,if_false,Bool.false_eq_true,List.take_succ_cons,List.take_zero]
   repeat (first
    | go_big_quiet_skip
    | (go_big_quiet_want;first
     | (refine yan _ _ _ (.agg T) rfl rfl (by rintro _ ⟨m,rfl⟩;exact L1 m) ?_;go_simp;go_big_quiet_on)|(refine yan _ _ _ (.agg (rC x.s.g)) rfl rfl (by rintro _ ⟨m,rfl⟩;exact L2 m) ?_;go_simp;go_big_quiet_on)
     | (go_big_quiet_op;first|go_big_quiet_on|go_big_quiet_call (first
      | (go_at_call 54;with_reducible exact (Q1).out _)))))
   refine wpQuiet_nil ?_;intro P hp1 hp2 w4a hk9 hz;have bg1:=hz (6,30) (by simp);have hg1:=hp1 6 (by simp);simp only [List.map_cons,List.map_nil,pl,List.drop_succ_cons,List.drop_zero];dsimp only at bg1;generalize P 6=gh at *;clear hz hp1 hp2 hU L1 L2 Q1 U P;refine yah (by rfl) _ _ _ rfl gh TH rfl rfl _ _ bg1 (by rw [HSz.out.1];exact k_size) (by rw [HSz.out.1];rfl) HSz.out.2 (fun K hK=>?_);obtain⟨w4,ea,ba,ka⟩:=yai (cs:=TH) bg1;rw [ea];go_simp;refine hK _ _ ?_;clear hK K ea;have hkk:=(show Keep [] wr w4 from hk9.trans ka (by simp;exact hg1)).bz
   have HX:=jX (HX.out.trans (Below.mono hkk HX.out.size));have Bgh:=jX ba;have Hlx:=jX (Hlx.out.grow hkk);have Ht4:=jX (hkk.block gt hgt);have hgt4:gt<w4.heap.size:=Nat.lt_of_lt_of_le hgt hkk.size;have Hg4:=jX (hkk.block g hg);have hg4:g<w4.heap.size:=Nat.lt_of_lt_of_le hg hkk.size;clear hk9 ka ba bg1 hkk hg1 H1;go_upto_region 5 with (fail)
   have hgh4:=yaa Bgh.out;refine yao (S:=fun u=>Below w4.heap.size w4 u) 13 (by kernel_rfl) (by kernel_rfl) (fun _ _ d _ _ h=>by cases d<;>exact h) ?_;have hS0:=(Keep.drew [] w4).bz;generalize World.drew w4=u at *;refine' jG (v:=_) 0 hS0 (fun w hw=>?hha0) (fun K hK=>?kha0)
   case hha0=>(go_simp;try rfl)
   go_simp;refine hK _ ?_;clear hK K;refine' jG (v:=_) 1 hS0 (fun w hw=>?hha1) (fun K hK=>?kha1)
   case hha1=>(go_simp;try rfl)
   go_simp;refine hK _ ?_;clear hK K;refine' jG (v:=_) 2 hS0 (fun w hw=>?hha2) (fun K hK=>?kha2)
   case hha2=>(go_simp;try rfl)
   go_simp;refine hK _ ?_;clear hK K;refine' jG (v:=_) 3 hS0 (fun w hw=>?hha3) (fun K hK=>?kha3)
   case hha3=>(go_simp;try rfl)
   go_simp;refine hK _ ?_;clear hK K;refine' jG (v:=_) 4 hS0 (fun w hw=>?hha4) (fun K hK=>?kha4)
   case hha4=>(have pd:=HPd.out _ ((hw.block g hg4).trans Hg4.out);go_simp;try rfl)
   go_simp;refine hK _ ?_;clear hK K;refine' jG (v:=_) 5 hS0 (fun w hw=>?hha5) (fun K hK=>?kha5)
   case hha5=>(go_simp;try rfl)
   go_simp;refine hK _ ?_;clear hK K;refine' jG (v:=_) 6 hS0 (fun w hw=>?hha6) (fun K hK=>?kha6)
   case hha6=>(go_simp;try rfl)
   go_simp;refine hK _ ?_;clear hK K;refine' jG (v:=_) 7 hS0 (fun w hw=>?hha7) (fun K hK=>?kha7)
   case hha7=>(go_simp;try rfl)
   go_simp;refine hK _ ?_;clear hK K;refine jG (v:=.agg T) 8 hS0 (fun w hw=>yad _ _ ⟨gt,q,none⟩ _ rfl rfl (HLt.out _ ((hw.block gt hgt4).trans Ht4.out))) (fun K hK=>?_);go_simp;refine hK _ ?_;clear hK K;refine jG (v:=.agg TH) 9 hS0 (fun w hw=>yad _ _ ⟨gh,0,none⟩ _ rfl rfl (HLh.out _ _ ((hw.block gh hgh4).trans Bgh.out))) (fun K hK=>?_);go_simp;refine hK _ ?_;clear hK K;refine yhq (v:=iv I) 10 (by rfl) (by decide) (by kernel_rfl) (by kernel_rfl) (by rfl) hS0 (fun w hw=>yas 32 #[(0,.tmp 32),(1,.tmp 33)] #[(0,.agg T),(1,.agg TH)] (iC I) rfl (by simp only [List.map_toArray,List.map_cons,List.map_nil];rfl) HBd.out) (fun K hK=>?_);go_simp;refine hK _ ?_;clear hK K;refine jP 11 (fun K hK=>?_);refine ybH (.slice (some ⟨u.heap.size,0,none⟩) 1 1) (u.alloc (.cells (iC I) 32)) (yaT 22 1 #[(0,.tmp 34)] #[(0,iv I)] _ rfl (by simp only [List.map_toArray,List.map_cons,List.map_nil];rfl) (ybk _ _)) ?_;obtain⟨u3,gl,e3,e4,k3,hl3⟩:=HLi.out u;rw [e3,e4];have hS0:=hS0.trans (Below.mono k3.bz hS0.size);have Hl3:=jX hl3;clear e3 e4 k3 hl3;go_simp;refine hK _ _ hS0 ?_;clear hK K;refine jP 12 (fun K hK=>?_);refine yaf 50 #[.slice x.a x.s.d.length x.c,.slice (some ⟨gl,0,none⟩) 1 1] (by go_simp) ?_;refine (HCv.out _ _ _ ((Hlx.out.grow hS0).one Hl3.out)).mono ?_;rintro e w5 ⟨rfl,hb⟩;have hS0:=hS0.trans (Below.mono hb hS0.size);refine ⟨_,rfl,?_⟩;go_simp;refine hK _ _ hS0 ?_;clear hK K;refine ⟨by kernel_rfl,?_⟩;simp only [List.drop_succ_cons,List.drop_zero];have HX:=jX (HX.out.trans (Below.mono hS0 HX.out.size));have Ht5:=jX ((hS0.block gt hgt4).trans Ht4.out);have hgt5:gt<w5.heap.size:=Nat.lt_of_lt_of_le hgt4 hS0.size;have Hg5:=jX ((hS0.block g hg4).trans Hg4.out);have hg5:g<w5.heap.size:=Nat.lt_of_lt_of_le hg4 hS0.size;clear hS0 hb HLi HBd Ht4 hgt4 Hg4 hg4 HCv Hlx Hl3 HLh HSz Bgh hgh4;cases cv with
   | false =>
    rw [Bool.false_and] at Hst;have Hno:=jX (hall_no hlt Hst.out);go_wp2_with fail;go_ret
    exact ⟨by rw [Hno.out];rfl,HX.out⟩
   | true =>
    rw [Bool.true_and] at Hst;by_cases hk0:k=0
    ·rw [decide_eq_true hk0,Bool.true_or] at Hst
     have hkb:((k:Int) == 0)=true:=by rw [beq_iff_eq];omega
     go_wp2_with fail;go_roundw
     case rel=>exact ⟨k+1,by omega,congrArg (Value.int .i64) (by omega),HX.out,fun i hi=>by
      by_cases h:i<k
      ·exact HF.out i h
      rw [show i=k by omega];exact Hst.out⟩
     case measure=>simp [intOf];omega
    rw [decide_eq_false hk0,Bool.false_or] at Hst;have hkb:((k:Int) == 0)=false:=by rw [beq_eq_false_iff_ne];omega
    obtain⟨j,hj⟩:∃ j,k=j+1:=⟨k-1,by omega⟩;have hjl:j<svs.length:=by omega
    have hjt:j<ts.length:=by rw [Hl.out];omega
    have hsub:IntKind.i64.wrap ((k:Int)-1)=(j:Int):=by rw [show (k:Int)-1=(j:Int) by omega];exact IntWalk.i64_in _ (by omega)
    have hj1:(j:Int)<(svs.length:Int):=by omega
    have hj0:(0:Int)≤(j:Int):=by omega
    rw [show k-1=j by omega,ybF hjl,tAt_get hjt] at Hst
    have Hj:=jX hj;clear hj;obtain⟨g',o',hge,hgq,hatj⟩:=StR.elem (HR.out.grow HX.out) j hjl;obtain⟨rfl,rfl⟩:g'=g∧o'=o:=by injection hge with hge;injection hge with h1 h2;exact ⟨h1.symm,h2.symm⟩
    obtain⟨gt',ot',hgte,_,hattj⟩:=KR.elem (HT.out.laterB HX.out) j hjt;obtain⟨rfl,rfl⟩:gt'=gt∧ot'=ot:=by injection hgte with hge;injection hge with h1 h2;exact ⟨h1.symm,h2.symm⟩
    have hsj:=ybF hjl;have hgj:FitQ 24 svs[j].s.g:=by rw [← hsj];exact ycG (HSt.out.g j)
    have hsmj:=HS.out _ (List.getElem_mem hjt);generalize svs[j]=y at *;generalize ts[j]=tj at *;obtain⟨pj,hpj⟩:∃ pj,o'+j*13=pj:=⟨_,rfl⟩;obtain⟨qj,hqj⟩:∃ qj,ot'+j*9=qj:=⟨_,rfl⟩;rw [hpj] at hatj;rw [hqj] at hattj;have Hatj:=jX hatj;have HLj:=jX (fun (u:World) (h:u.heap[gt']? = w5.heap[gt']?)=>show (loadVar 30 ⟨gt',qj,none⟩).run prog u = .ok (.agg (kC tj)) u from yaL _ _ _ _ (hattj.keep h))
    have H1:=jX (ydp hsmj (by decide) hgj);have hsb:Sm 33 (mvK y.s.g tj):=yeq hsmj (by decide) hgj;have H2:=jX (ydp hsb (by decide) Hfa.out);have H3:=jX (ydp hsb (by decide) Hfb.out);have H4:=jX (krcmp_c t (mvK x.s.a (mvK y.s.g tj)));have H5:=jX (krcmp_c t (mvK x.s.b (mvK y.s.g tj)));have HSz:Hid ((kC (mvK y.s.g tj)).size=9∧(kC (mvK y.s.g tj)).all (·.oneCell')=true):=jX ⟨(ybm _).2.1,(ybm _).2.2⟩;have HLh:=jX (fun (u:World) (h:Nat) (hh:u.heap[h]? = some (.cells (kC (mvK y.s.g tj)) 30))=>show (loadVar 30 ⟨h,0,none⟩).run prog u = .ok (.agg (kC (mvK y.s.g tj))) u from yaL _ _ _ _ (kAt_box hh))
    have c1:=cmp_lt0 t (mvK x.s.a (mvK y.s.g tj));have c2:=cmp_gt0 t (mvK x.s.b (mvK y.s.g tj));rw [show kv t = .agg (kC t) from rfl,HTt.out] at H4 H5
    rw [show kv (mvK x.s.a (mvK y.s.g tj)) = .agg (kC (mvK x.s.a (mvK y.s.g tj))) from rfl] at H4
    rw [show kv (mvK x.s.b (mvK y.s.g tj)) = .agg (kC (mvK x.s.b (mvK y.s.g tj))) from rfl] at H5
    clear hatj hattj hge hgte hsj hgj hsmj hsb;generalize mvK y.s.g tj=bf at *;generalize mvK x.s.a bf=lo at *;generalize mvK x.s.b bf=hi at *;generalize kC tj=TJ at *;generalize kC bf=BF at *;generalize kC lo=LO at *;generalize kC hi=HI at *
    have C1:Hid (decide (lo≤t) = !decide (cmpQ t.1 lo.1<0)):=jX (by
     rw [Bool.eq_iff_iff,decide_eq_true_iff,Bool.not_eq_true',decide_eq_false_iff_not,c1]
     grind)
    have C2:Hid (decide (t≤hi) = !decide (0<cmpQ t.1 hi.1)):=jX (by
     rw [Bool.eq_iff_iff,decide_eq_true_iff,Bool.not_eq_true',decide_eq_false_iff_not,c2]
     grind)
    rw [C1.out,C2.out] at Hst;clear C1 C2 c1 c2;generalize cmpQ t.1 lo.1=n1 at *;generalize cmpQ t.1 hi.1=n2 at *;go_upto_region 8 with (fail)
    refine yaz 13 [(7,30)] (fun _=>.cells #[.bool false,.string ⟨#[]⟩,.bool false,.string ⟨#[]⟩,.bool false,.string ⟨#[]⟩,.bool false,.string ⟨#[]⟩,.bool false] 30) (by kernel_rfl) (by kernel_rfl) (by kernel_rfl) (fun t ht ev w o ho=>by simp at ht;subst ht;exact al_rlN ev w o ho) ?_;intro U hU;have L1:∀ m:KW U,(loadVar 30 ⟨gt',qj,none⟩).run prog (Wk U m) = .ok (.agg TJ) (Wk U m):=fun m=>HLj.out _ ((m.k.block gt' (Nat.lt_of_lt_of_le hgt5 hU.size) (by simp)).trans (hU.block gt' hgt5 (by simp)));have L2:∀ m:KW U,(loadVar 28 ⟨g',pj+1,none⟩).run prog (Wk U m) = .ok (.agg (rC y.s.g)) (Wk U m):=fun m=>(Hatj.out.keep ((m.k.block g' (Nat.lt_of_lt_of_le hgq hU.size) (by simp)).trans (hU.block g' hgq (by simp)))).lg;have Q1:Hid (∀ m:KW U,Calls prog 54 #[.agg TJ,.agg (rC y.s.g)] (Wk U m) fun e w'=>e = .returned (.agg BF)∧∃ m,w'=Wk U m):=fun m=>qk m (H1.out _);simp only [List.map_cons,List.map_nil,unal,isAl,if_true,if_false,Bool.false_eq_true,List.take_succ_cons,List.take_zero]
    repeat (first
     | go_big_quiet_skip
     | (go_big_quiet_want;first
      | (refine yan _ _ _ (.agg TJ) rfl rfl (by rintro _ ⟨m,rfl⟩;exact L1 m) ?_;go_simp;go_big_quiet_on)|(refine yan _ _ _ (.agg (rC y.s.g)) rfl rfl (by rintro _ ⟨m,rfl⟩;exact L2 m) ?_;go_simp;go_big_quiet_on)
      | (go_big_quiet_op;first|go_big_quiet_on|go_big_quiet_call (first
       | (go_at_call 54;with_reducible exact (Q1).out _)))))
    refine wpQuiet_nil ?_;intro P hp1 hp2 w7a hk9 hz;have bg1:=hz (7,30) (by simp);have hg1:=hp1 7 (by simp);simp only [List.map_cons,List.map_nil,pl,List.drop_succ_cons,List.drop_zero];dsimp only at bg1;generalize P 7=gf at *;clear hz hp1 hp2 hU L1 L2 Q1 U P;refine yah (by rfl) _ _ _ rfl gf BF rfl rfl _ _ bg1 (by rw [HSz.out.1];exact k_size) (by rw [HSz.out.1];rfl) HSz.out.2 (fun K hK=>?_);obtain⟨w8,ea,ba,ka⟩:=yai (cs:=BF) bg1;rw [ea];go_simp;refine hK _ _ ?_;clear hK K ea;have hkk:=(show Keep [] w5 w8 from hk9.trans ka (by simp;exact hg1)).bz
    have HX:=jX (HX.out.trans (Below.mono hkk HX.out.size));have Bgf:=jX ba;have Ht8:=jX ((hkk.block gt' hgt5).trans Ht5.out);have hgt8:gt'<w8.heap.size:=Nat.lt_of_lt_of_le hgt5 hkk.size;have Hg8:=jX ((hkk.block g' hg5).trans Hg5.out);have hg8:g'<w8.heap.size:=Nat.lt_of_lt_of_le hg5 hkk.size;have hgf8:=yaa Bgf.out;clear hk9 ka ba bg1 hkk hg1 H1 HLj Hatj HSz Ht5 Hg5 hgt5 hg5 hgq;by_cases hn1:n1<0
    ·have Hno:=jX (hall_no hlt (by rw [Hst.out,decide_eq_true hn1];rfl))
     go_upto_region 9 with (fail)
     refine yao (S:=fun u=>Below w8.heap.size w8 u) 27 (by kernel_rfl) (by kernel_rfl) (fun _ _ d _ _ h=>by cases d<;>exact h) ?_;have hS0:=(Keep.drew [] w8).bz;generalize World.drew w8=u9 at *;refine' jG (v:=_) 0 hS0 (fun w hw=>?hhd0) (fun K hK=>?khd0)
     case hhd0=>(go_simp;try rfl)
     go_simp;refine hK _ ?_;clear hK K;refine' jG (v:=_) 1 hS0 (fun w hw=>?hhd1) (fun K hK=>?khd1)
     case hhd1=>(go_simp;try rfl)
     go_simp;refine hK _ ?_;clear hK K;refine' jG (v:=_) 2 hS0 (fun w hw=>?hhd2) (fun K hK=>?khd2)
     case hhd2=>(go_simp;try rfl)
     go_simp;refine hK _ ?_;clear hK K;refine jG (v:=.agg T) 3 hS0 (fun w hw=>yad _ _ ⟨gt',q,none⟩ _ rfl rfl (HLt.out _ ((hw.block gt' hgt8).trans Ht8.out))) (fun K hK=>?_);go_simp;refine hK _ ?_;clear hK K;refine jG (v:=.agg BF) 4 hS0 (fun w hw=>yad _ _ ⟨gf,0,none⟩ _ rfl rfl (HLh.out _ _ ((hw.block gf hgf8).trans Bgf.out))) (fun K hK=>?_);go_simp;refine hK _ ?_;clear hK K;refine' jG (v:=_) 5 hS0 (fun w hw=>?hhd5) (fun K hK=>?khd5)
     case hhd5=>(go_simp;try rfl)
     go_simp;refine hK _ ?_;clear hK K;refine' jG (v:=_) 6 hS0 (fun w hw=>?hhd6) (fun K hK=>?khd6)
     case hhd6=>(go_simp;try rfl)
     go_simp;refine hK _ ?_;clear hK K;refine' jG (v:=_) 7 hS0 (fun w hw=>?hhd7) (fun K hK=>?khd7)
     case hhd7=>(go_simp;try rfl)
     go_simp;refine hK _ ?_;clear hK K;refine' jG (v:=_) 8 hS0 (fun w hw=>?hhd8) (fun K hK=>?khd8)
     case hhd8=>(go_simp;try rfl)
     go_simp;refine hK _ ?_;clear hK K;refine jG (v:=.agg (rC x.s.a)) 9 hS0 (fun w hw=>yad _ _ ⟨g',p+5,none⟩ _ rfl rfl ((Hat.out.keep ((hw.block g' hg8).trans Hg8.out)).la)) (fun K hK=>?_);go_simp;refine hK _ ?_;clear hK K;refine jP 10 (fun K hK=>?_);refine yaf 54 #[.agg BF,.agg (rC x.s.a)] (by go_simp) ?_;refine (H2.out _).mono ?_;rintro e ua ⟨rfl,hb⟩;have hb:=hb.bz;have hS0:=hS0.trans (Below.mono hb hS0.size);refine ⟨_,rfl,?_⟩;go_simp;refine hK _ _ hS0 ?_;clear hK K hb;refine jP 11 (fun K hK=>?_);refine yaf 81 #[.agg T,.agg LO] (by go_simp) ?_;refine (H4.out _).mono ?_;rintro e ub ⟨rfl,hb⟩;have hb:=hb.bz;have hS0:=hS0.trans (Below.mono hb hS0.size);refine ⟨_,rfl,?_⟩;go_simp;refine hK _ _ hS0 ?_;clear hK K hb;refine' jG (v:=_) 12 hS0 (fun w hw=>?hhd12) (fun K hK=>?khd12)
     case hhd12=>(go_simp;try rfl)
     go_simp;refine hK _ ?_;clear hK K;refine' jG (v:=_) 13 hS0 (fun w hw=>?hhd13) (fun K hK=>?khd13)
     case hhd13=>(go_simp;try rfl)
     go_simp;refine hK _ ?_;clear hK K;refine jS 14 hS0 (fun K hK=>?_);go_simp;refine hK _ ?_;clear hK K;refine jS 15 hS0 (fun K hK=>?_);go_simp;refine hK _ ?_;clear hK K;refine jS 16 hS0 (fun K hK=>?_);go_simp;refine hK _ ?_;clear hK K;refine jS 17 hS0 (fun K hK=>?_);go_simp;refine hK _ ?_;clear hK K;refine jS 18 hS0 (fun K hK=>?_);go_simp;refine hK _ ?_;clear hK K;refine jS 19 hS0 (fun K hK=>?_);go_simp;refine hK _ ?_;clear hK K;refine jS 20 hS0 (fun K hK=>?_);go_simp;refine hK _ ?_;clear hK K;refine jS 21 hS0 (fun K hK=>?_);go_simp;refine hK _ ?_;clear hK K;refine jS 22 hS0 (fun K hK=>?_);go_simp;refine hK _ ?_;clear hK K;refine jS 23 hS0 (fun K hK=>?_);go_simp;refine hK _ ?_;clear hK K;refine jS 24 hS0 (fun K hK=>?_);go_simp;refine hK _ ?_;clear hK K;refine jS 25 hS0 (fun K hK=>?_);go_simp;refine hK _ ?_;clear hK K;refine jS 26 hS0 (fun K hK=>?_);go_simp;refine hK _ ?_;clear hK K;refine ⟨by kernel_rfl,?_⟩;simp only [List.drop_succ_cons,List.drop_zero];have HX:=jX (HX.out.trans (Below.mono hS0 HX.out.size));clear hS0;go_wp2_with fail;go_ret
     exact ⟨by rw [Hno.out];rfl,HX.out⟩
    rw [decide_eq_false hn1,Bool.not_false,Bool.true_and] at Hst;go_upto_region 9 with (fail)
    refine yao (S:=fun u=>Below w8.heap.size w8 u) 27 (by kernel_rfl) (by kernel_rfl) (fun _ _ d _ _ h=>by cases d<;>exact h) ?_;have hS0:=(Keep.drew [] w8).bz;generalize World.drew w8=u9 at *;refine' jG (v:=_) 0 hS0 (fun w hw=>?hhe0) (fun K hK=>?khe0)
    case hhe0=>(go_simp;try rfl)
    go_simp;refine hK _ ?_;clear hK K;refine' jG (v:=_) 1 hS0 (fun w hw=>?hhe1) (fun K hK=>?khe1)
    case hhe1=>(go_simp;try rfl)
    go_simp;refine hK _ ?_;clear hK K;refine' jG (v:=_) 2 hS0 (fun w hw=>?hhe2) (fun K hK=>?khe2)
    case hhe2=>(go_simp;try rfl)
    go_simp;refine hK _ ?_;clear hK K;refine jG (v:=.agg T) 3 hS0 (fun w hw=>yad _ _ ⟨gt',q,none⟩ _ rfl rfl (HLt.out _ ((hw.block gt' hgt8).trans Ht8.out))) (fun K hK=>?_);go_simp;refine hK _ ?_;clear hK K;refine jG (v:=.agg BF) 4 hS0 (fun w hw=>yad _ _ ⟨gf,0,none⟩ _ rfl rfl (HLh.out _ _ ((hw.block gf hgf8).trans Bgf.out))) (fun K hK=>?_);go_simp;refine hK _ ?_;clear hK K;refine' jG (v:=_) 5 hS0 (fun w hw=>?hhe5) (fun K hK=>?khe5)
    case hhe5=>(go_simp;try rfl)
    go_simp;refine hK _ ?_;clear hK K;refine' jG (v:=_) 6 hS0 (fun w hw=>?hhe6) (fun K hK=>?khe6)
    case hhe6=>(go_simp;try rfl)
    go_simp;refine hK _ ?_;clear hK K;refine' jG (v:=_) 7 hS0 (fun w hw=>?hhe7) (fun K hK=>?khe7)
    case hhe7=>(go_simp;try rfl)
    go_simp;refine hK _ ?_;clear hK K;refine' jG (v:=_) 8 hS0 (fun w hw=>?hhe8) (fun K hK=>?khe8)
    case hhe8=>(go_simp;try rfl)
    go_simp;refine hK _ ?_;clear hK K;refine jG (v:=.agg (rC x.s.a)) 9 hS0 (fun w hw=>yad _ _ ⟨g',p+5,none⟩ _ rfl rfl ((Hat.out.keep ((hw.block g' hg8).trans Hg8.out)).la)) (fun K hK=>?_);go_simp;refine hK _ ?_;clear hK K;refine jP 10 (fun K hK=>?_);refine yaf 54 #[.agg BF,.agg (rC x.s.a)] (by go_simp) ?_;refine (H2.out _).mono ?_;rintro e ua ⟨rfl,hb⟩;have hb:=hb.bz;have hS0:=hS0.trans (Below.mono hb hS0.size);refine ⟨_,rfl,?_⟩;go_simp;refine hK _ _ hS0 ?_;clear hK K hb;refine jP 11 (fun K hK=>?_);refine yaf 81 #[.agg T,.agg LO] (by go_simp) ?_;refine (H4.out _).mono ?_;rintro e ub ⟨rfl,hb⟩;have hb:=hb.bz;have hS0:=hS0.trans (Below.mono hb hS0.size);refine ⟨_,rfl,?_⟩;go_simp;refine hK _ _ hS0 ?_;clear hK K hb;refine' jG (v:=_) 12 hS0 (fun w hw=>?hhe12) (fun K hK=>?khe12)
    case hhe12=>(go_simp;try rfl)
    go_simp;refine hK _ ?_;clear hK K;refine' jG (v:=_) 13 hS0 (fun w hw=>?hhe13) (fun K hK=>?khe13)
    case hhe13=>(go_simp;try rfl)
    go_simp;refine hK _ ?_;clear hK K;refine' jG (v:=_) 14 hS0 (fun w hw=>?hhe14) (fun K hK=>?khe14)
    case hhe14=>(go_simp;try rfl)
    go_simp;refine hK _ ?_;clear hK K;refine' jG (v:=_) 15 hS0 (fun w hw=>?hhe15) (fun K hK=>?khe15)
    case hhe15=>(go_simp;try rfl)
    go_simp;refine hK _ ?_;clear hK K;refine' jG (v:=_) 16 hS0 (fun w hw=>?hhe16) (fun K hK=>?khe16)
    case hhe16=>(go_simp;try rfl)
    go_simp;refine hK _ ?_;clear hK K;refine jG (v:=.agg T) 17 hS0 (fun w hw=>yad _ _ ⟨gt',q,none⟩ _ rfl rfl (HLt.out _ ((hw.block gt' hgt8).trans Ht8.out))) (fun K hK=>?_);go_simp;refine hK _ ?_;clear hK K;refine jG (v:=.agg BF) 18 hS0 (fun w hw=>yad _ _ ⟨gf,0,none⟩ _ rfl rfl (HLh.out _ _ ((hw.block gf hgf8).trans Bgf.out))) (fun K hK=>?_);go_simp;refine hK _ ?_;clear hK K;refine' jG (v:=_) 19 hS0 (fun w hw=>?hhe19) (fun K hK=>?khe19)
    case hhe19=>(go_simp;try rfl)
    go_simp;refine hK _ ?_;clear hK K;refine' jG (v:=_) 20 hS0 (fun w hw=>?hhe20) (fun K hK=>?khe20)
    case hhe20=>(go_simp;try rfl)
    go_simp;refine hK _ ?_;clear hK K;refine' jG (v:=_) 21 hS0 (fun w hw=>?hhe21) (fun K hK=>?khe21)
    case hhe21=>(go_simp;try rfl)
    go_simp;refine hK _ ?_;clear hK K;refine' jG (v:=_) 22 hS0 (fun w hw=>?hhe22) (fun K hK=>?khe22)
    case hhe22=>(go_simp;try rfl)
    go_simp;refine hK _ ?_;clear hK K;refine jG (v:=.agg (rC x.s.b)) 23 hS0 (fun w hw=>yad _ _ ⟨g',p+9,none⟩ _ rfl rfl ((Hat.out.keep ((hw.block g' hg8).trans Hg8.out)).lb)) (fun K hK=>?_);go_simp;refine hK _ ?_;clear hK K;refine jP 24 (fun K hK=>?_);refine yaf 54 #[.agg BF,.agg (rC x.s.b)] (by go_simp) ?_;refine (H3.out _).mono ?_;rintro e uc ⟨rfl,hb⟩;have hb:=hb.bz;have hS0:=hS0.trans (Below.mono hb hS0.size);refine ⟨_,rfl,?_⟩;go_simp;refine hK _ _ hS0 ?_;clear hK K hb;refine jP 25 (fun K hK=>?_);refine yaf 81 #[.agg T,.agg HI] (by go_simp) ?_;refine (H5.out _).mono ?_;rintro e ud ⟨rfl,hb⟩;have hb:=hb.bz;have hS0:=hS0.trans (Below.mono hb hS0.size);refine ⟨_,rfl,?_⟩;go_simp;refine hK _ _ hS0 ?_;clear hK K hb;by_cases hn2:0<n2
    ·skip
     refine' jG (v:=_) 26 hS0 (fun w hw=>?hhf26) (fun K hK=>?khf26)
     case hhf26=>(go_simp;try rfl)
     go_simp;refine hK _ ?_;clear hK K;refine ⟨by kernel_rfl,?_⟩;simp only [List.drop_succ_cons,List.drop_zero];have Hno:=jX (hall_no hlt (by rw [Hst.out,decide_eq_true hn2];rfl));have HX:=jX (HX.out.trans (Below.mono hS0 HX.out.size));clear hS0;go_wp2_with fail;go_ret
     exact ⟨by rw [Hno.out];rfl,HX.out⟩
    rw [decide_eq_false hn2,Bool.not_false] at Hst;refine' jG (v:=_) 26 hS0 (fun w hw=>?hhg26) (fun K hK=>?khg26)
    case hhg26=>(go_simp;try rfl)
    go_simp;refine hK _ ?_;clear hK K;refine ⟨by kernel_rfl,?_⟩;simp only [List.drop_succ_cons,List.drop_zero];have HX:=jX (HX.out.trans (Below.mono hS0 HX.out.size));clear hS0;go_wp2_with fail;go_roundw
    case rel=>exact ⟨k+1,by omega,congrArg (Value.int .i64) (by omega),HX.out,fun i hi=>by
     by_cases h:i<k
     ·exact HF.out i h
     rw [show i=k by omega];exact Hst.out⟩
    case measure=>simp [intOf];omega
  have hkn:k=svs.length:=by omega
  have hkc:¬ ((k:Int)<(svs.length:Int)):=by omega
  have Hy:=jX (hall_yes (s:=sAt (stS svs)) (t:=tAt ts) (n:=svs.length) (fun i hi=>HF.out i (by omega)));clear HF hkn;go_wp2_with fail;go_ret
  exact ⟨by rw [Hy.out];rfl,HX.out⟩
end
section
open Classical
theorem load_rawRAt {w:World} {g o:Nat} {x:RawR} (h:∀ i v,x.cells[i]? = some v→w.cell? ⟨g,o+i,none⟩=some v):(loadVar 30 ⟨g,o,none⟩).run prog w = .ok (.agg x.cells.toArray) w:=by
 obtain⟨ie,hie,hs⟩:=infoReal;exact Go.Lib.rl_loadVar_cells 30 ie hie isAgg30 g o x.cells (by rw [hs];rfl) w h
theorem all_small:∀ l:List RawR,(∀ r∈l,r.ok=true)→∃ ts:List K,ts.length=l.length∧(∀ x∈ts,Sm 8 x)∧(ts.flatMap fun x=>kcells x.1)=l.flatMap fun r=>r.cells
 | [],_=>⟨[],rfl,(fun _ h=>by cases h),rfl⟩
 | r :: l,h=>by
  obtain⟨t,ht,hx⟩:=RawR.ok_some (h r (List.mem_cons_self ..));obtain⟨ts,h1,h2,h3⟩:=all_small l fun r hr=>h r (List.mem_cons_of_mem _ hr);refine ⟨t :: ts,by simp [h1],fun x hx=>?_,?_⟩
  ·rcases List.mem_cons.1 hx with rfl|hx
   ·exact ht
   exact h2 x hx
  rw [List.flatMap_cons,List.flatMap_cons,h3]
  have:r.cells=kcells t.1:=by
   have:=congrArg Array.toList hx;rw [(ybm t).1] at this
   simpa using this
  rw [this]
theorem row_small {w:World} {v:Value} {l:List RawR} {ts:List K} (h:RRR w v l) (hl:ts.length=l.length) (hf:(ts.flatMap fun x=>kcells x.1)=l.flatMap fun r=>r.cells):KR w v ts:=by
 rcases h with ⟨h1,h2⟩|⟨g,o,c,h1,h2,h3,h4⟩
 ·exact .inl ⟨h1,List.length_eq_zero_iff.1 (by rw [hl,h2];rfl)⟩
 exact .inr ⟨g,o,c,by rw [hl];exact h1,by rw [hl];exact h2,h3,fun i v hv=>h4 i v (by rw [← hf];exact hv)⟩
theorem holds_ne (svs:List StV) (n:Nat) (hg:Good (stS svs)) (h1:0<svs.length) (hn:n≠svs.length) (w:World) (sv:Value) (ta:Option Addr) (tc:Nat) (hr:StR w sv svs) :
  Calls prog 63 #[sv,.slice ta n tc] w (HoP w false 2):=by
 have HP:=jX (pchk_c svs hg h1 w sv hr);obtain⟨xa,xc,rfl⟩:=hr.form;clear hr hg;have hb1:((n:Int) != (svs.length:Int))=true:=by rw [bne_iff_ne];omega
 go_enter func63,ntmps63
 go_wp2_with fail;refine HP.out.mono ?_;rintro e w1 ⟨rfl,hb⟩;dsimp only;have HB:=jX hb;clear hb HP;go_wp2_with fail;go_ret2
 exact ⟨rfl,HB.out⟩
theorem patternHolds_c (w:World) (v0 v1:Value) (m0:EvsArg w v0) (m1:RLArg w v1) :
  Calls prog 11 #[v0,v1] w fun e w'=>e = .returned (.bool true)∧Below w.heap.size w w':=by
 obtain⟨l,hr⟩:=m0;obtain⟨rs,hrs,hr9,hsz⟩:=m1;have HA:=jX hr;obtain⟨ao,ac,rfl,hl9⟩:=hr.form;obtain⟨ta,tc,rfl,_⟩:=hrs.form;have HT:=jX hrs;have HZ:=jX hsz;clear hr hrs hsz;have HK:=jX (fun u=>known51_c u);by_cases h0:l.length=0
 ·have hi:((l.length:Int) == 0)=true:=by rw [beq_iff_eq];omega
  go_enter func11,ntmps11
  go_wp2_with fail;refine (HK.out _).mono ?_;rintro e w1 ⟨rfl,hb⟩;dsimp only;have HB:=jX hb;clear hb;go_wp2_with fail;refine (HK.out _).mono ?_;rintro e w2 ⟨rfl,hb⟩;dsimp only;have HB:=jX (HB.out.trans (Below.mono hb HB.out.size));clear hb;go_wp2_with fail;go_ret
  exact ⟨rfl,HB.out⟩
 have hi:((l.length:Int) == 0)=false:=by rw [beq_eq_false_iff_ne];omega
 by_cases h5:5<rs.length
 ·have h5i:(5:Int)<(rs.length:Int):=by omega
  go_enter func11,ntmps11
  go_wp2_with fail;refine (HK.out _).mono ?_;rintro e w1 ⟨rfl,hb⟩;dsimp only;have HB:=jX hb;clear hb;go_wp2_with fail;refine (HK.out _).mono ?_;rintro e w2 ⟨rfl,hb⟩;dsimp only;have HB:=jX (HB.out.trans (Below.mono hb HB.out.size));clear hb;go_wp2_with fail;go_ret
  exact ⟨rfl,HB.out⟩
 have h5i:¬ (5:Int)<(rs.length:Int):=by omega
 have Hl0:=jX (show 0<l.length by omega)
 clear hl9 h0;go_enter func11,ntmps11
 go_wp2_with fail;refine (HK.out _).mono ?_;rintro e w1 ⟨rfl,hb⟩;dsimp only;have HB:=jX hb;have HA:=jX (HA.out.later hb);have HT:=jX (HT.out.laterB hb);clear hb HK;go_wp2_with fail;go_loopw [5] (fun c wr=>∃ k:Nat,k≤rs.length∧c = .int .i64 (k:Int)∧Below w1.heap.size w1 wr∧∀ r∈rs.take k,r.ok=true) (fun c _=>rs.length-(intOf c).toNat)
 case atStart=>exact ⟨0,Nat.zero_le _,rfl,Below.refl _ _,fun r h=>by simp at h⟩
 case round =>
  obtain⟨k,hk,rfl,hb,hF⟩:=hrel;have HX:=jX hb;have HF:=jX hF;clear hb hF;by_cases hlt:k<rs.length
  ·obtain⟨gt,ot,rfl,hgt,hatt⟩:=RowE.elem rawr_len (HT.out.laterB HX.out) k hlt
   have hkc:(k:Int)<(rs.length:Int):=by omega
   have HSm:=jX (small_c rs[k] (HZ.out _ (List.getElem_mem hlt)))
   have Hok:=jX (fun (h:rs[k].ok=true)=>show ∀ r∈rs.take (k+1),r.ok=true by
    intro r hr;rw [List.take_succ_eq_append_getElem hlt] at hr;rcases List.mem_append.1 hr with hr|hr
    ·exact HF.out r hr
    rw [List.mem_singleton] at hr;subst hr
    exact h)
   generalize rs[k]=x at *;obtain⟨q,hq⟩:∃ q,ot+k*9=q:=⟨_,rfl⟩;rw [hq] at hatt;have HL:=jX (load_rawRAt hatt);rw [show x.v = .agg x.cells.toArray from rfl] at HSm
   clear hatt;generalize x.cells.toArray=X at *;go_upto_region 6 with (fail)
   refine wp_region_lit ?_;refine' yab (v:=_) (by rfl) (?hra) (fun K hK=>?kra)
   case hra=>(go_simp;try rfl)
   go_simp;refine hK _ _ ?_;clear hK K;refine' yab (v:=_) (by rfl) (?hrb) (fun K hK=>?krb)
   case hrb=>(go_simp;try rfl)
   go_simp;refine hK _ _ ?_;clear hK K;refine' yab (v:=_) (by rfl) (?hrc) (fun K hK=>?krc)
   case hrc=>(go_simp;try rfl)
   go_simp;refine hK _ _ ?_;clear hK K;refine yab (v:=.agg X) (by rfl) (yad _ _ ⟨gt,q,none⟩ _ rfl rfl HL.out) (fun K hK=>?_);go_simp;refine hK _ _ ?_;clear hK K;refine wpList_plain (by rfl) (fun K hK=>?_);refine yaf 51 #[.agg X] (by go_simp) ?_;refine (HSm.out _).mono ?_;rintro e9 w2 ⟨rfl,hb⟩;refine ⟨_,rfl,?_⟩;go_simp;refine hK _ _ ?_;clear hK K;have HX:=jX (HX.out.trans (Below.mono hb HX.out.size));clear hb HSm HL;cases hok:x.ok with
   | false =>
    have HB:=jX (HB.out.trans (Below.mono HX.out HB.out.size));go_wp2_with fail;go_ret
    exact ⟨rfl,HB.out⟩
   | true =>
    have Hk1:=jX (Hok.out hok);clear Hok hok;go_wp2_with fail;go_roundw
    case rel=>exact ⟨k+1,by omega,congrArg (Value.int .i64) (by omega),HX.out,Hk1.out⟩
    case measure=>simp [intOf];omega
  have hkn:k=rs.length:=by omega
  have hkc:¬ ((k:Int)<(rs.length:Int)):=by omega
  have HT:=jX (HT.out.laterB HX.out);have HA:=jX (HA.out.later HX.out);have HB:=jX (HB.out.trans (Below.mono HX.out HB.out.size));obtain⟨ts,ht1,ht2,ht3⟩:=all_small rs (fun r hr=>HF.out r (by rw [List.take_of_length_le (by omega)];exact hr));have HT:=jX (row_small HT.out ht1 ht3);have HS:=jX ht2;rw [← ht1];rw [← ht1] at h5i h5 HT hkc;clear HF HZ hr9 hk hlt hkn ht3 ht2 HX;clear ht1;have HSt:=jX (Steps_s l wr _ HA.out);go_wp2_with fail;refine HSt.out.mono ?_;rintro e w3 ⟨xa,xc,svs,rfl,hst,hgd,hso,hln,hb⟩;dsimp only;have HB:=jX (HB.out.trans (Below.mono hb HB.out.size));have HT:=jX (HT.out.laterB hb);have HR:=jX hst;have HG:=jX hgd;have h1:0<svs.length:=by have:=Hl0.out;omega
  have h4:svs.length≤4:=by omega
  clear hb HSt HA hst hgd hso hln hi Hl0;by_cases hne:ts.length=svs.length
  ·rw [hne] at HT ⊢
   have HC1:=jX (fun u sv tv (h:StR u sv svs) (k:KR u tv ts)=>holds_p svs ts HG.out h1 h4 hne HS.out u sv tv h k);have HC2:=jX (fun u sv tv (h:StR u sv svs) (k:KR u tv ts)=>rholds_c svs ts HG.out h1 h4 hne HS.out u sv tv h k);have hbn:((svs.length:Int) != (svs.length:Int))=false:=by simp
   generalize hall (sAt (stS svs)) (tAt ts) svs.length=r at *;go_wp2_with fail;refine (HC1.out _ _ _ HR.out HT.out).mono ?_;rintro e w4 ⟨rfl,hb⟩;dsimp only;have HB:=jX (HB.out.trans (Below.mono hb HB.out.size));have HT:=jX (HT.out.laterB hb);have HR:=jX (HR.out.grow hb);clear hb HC1;go_upto_region 12 with (fail)
   refine wp_region_lit ?_;refine' yab (v:=_) (by rfl) (?hca) (fun K hK=>?kca)
   case hca=>(go_simp;try rfl)
   go_simp;refine hK _ _ ?_;clear hK K;refine' yab (v:=_) (by rfl) (?hcb) (fun K hK=>?kcb)
   case hcb=>(go_simp;try rfl)
   go_simp;refine hK _ _ ?_;clear hK K;refine' yab (v:=_) (by rfl) (?hcc) (fun K hK=>?kcc)
   case hcc=>(go_simp;try rfl)
   go_simp;refine hK _ _ ?_;clear hK K;refine wpList_plain (by rfl) (fun K hK=>?_);refine yaf 64 #[.slice xa svs.length xc,.slice ta svs.length tc] (by go_simp) ?_;refine (HC2.out _ _ _ HR.out HT.out).mono ?_;rintro e9 w5 ⟨rfl,hb⟩;refine ⟨_,rfl,?_⟩;go_simp;refine hK _ _ ?_;clear hK K;have HB:=jX (HB.out.trans (Below.mono hb HB.out.size));clear hb HC2 HT HR;have hrr:(r == r)=true:=by simp
   iterate 6 (first|(refine gWE (by rfl) ?_;refine ⟨?_,?_,fun K hK=>?_⟩;rotate_left;(go_simp;try rfl);go_simp;refine hK _ _ ?_;clear hK K)|(refine gWS (by rfl) (fun K hK=>?_);go_simp;refine hK _ _ ?_;clear hK K))
   go_wp2_with fail;go_ret
   exact ⟨rfl,HB.out⟩
  have HC1:=jX (fun u sv (h:StR u sv svs)=>holds_ne svs ts.length HG.out h1 hne u sv ta tc h);have hbn:((ts.length:Int) != (svs.length:Int))=true:=by rw [bne_iff_ne];omega
  go_wp2_with fail;refine (HC1.out _ _ HR.out).mono ?_;rintro e w4 ⟨rfl,hb⟩;dsimp only;have HB:=jX (HB.out.trans (Below.mono hb HB.out.size));clear hb HC1;go_wp2_with fail;go_ret
  exact ⟨rfl,HB.out⟩
end
end Go.Proofs.YtpgffjjpiafhpaaGreatDoor
