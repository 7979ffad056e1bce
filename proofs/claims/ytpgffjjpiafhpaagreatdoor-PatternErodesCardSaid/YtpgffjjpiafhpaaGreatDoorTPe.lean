/- Parts of a proof: Ss@e Pn@e Ue@e Uh@e Vc@e Va@e Vd@e Ia@e Iz@e Vh@e Vb@e If@e Fa@e Fd@e Ea@e Hq@e Ec@e He@e Ed@e Eh@e Ei@e. -/
import Derived.Deep.Slices
import Derived.Lib.SmallJoins
import Derived.Test.YtpgffjjpiafhpaaGreatDoorP14
import Derived.Test.YtpgffjjpiafhpaaGreatDoorP08
import Derived.Test.YtpgffjjpiafhpaaGreatDoorP18
import Derived.Test.YtpgffjjpiafhpaaGreatDoorP17
import Derived.Test.YtpgffjjpiafhpaaGreatDoorP15
import Derived.Test.YtpgffjjpiafhpaaGreatDoorP23
import Derived.Test.YtpgffjjpiafhpaaGreatDoorP19
import Derived.Test.YtpgffjjpiafhpaaGreatDoorP20
import Derived.Test.YtpgffjjpiafhpaaGreatDoorP32
set_option linter.unusedVariables false
set_option linter.unusedSimpArgs false
set_option linter.unusedSectionVars false
set_option maxRecDepth 100000
set_option maxHeartbeats 8000000
namespace Go.Proofs.YtpgffjjpiafhpaaGreatDoor
open Go.RowKit Tryz
section
variable {α:Type} (enc:α→List Value)
variable {enc}
end
theorem kw_k {w:World} {g:Nat} {x:K} {t:TypeId} (h:w.heap[g]? = some (.cells (kC x) t)):∀ m:KW w,(loadVar 30 ⟨g,0,none⟩).run prog (Wk w m) = .ok (kv x) (Wk w m) :=
 fun m=>yaL _ _ _ _ (kAt_box (m.k.heap h (by simp)))
theorem normK_has (l:List (Iv K)) (x:Bd K):hasL (normK l) x=hasL l x:=by rw [combK_has];simp [decV,yeZ]
theorem Minus_c (a b:Bool) (w:World):Calls prog 124 #[.bool a,.bool b] w fun e w'=>e = .returned (.bool (decV 3 a b))∧Keep [] w w':=by
 cases a<;>cases b
 all_goals
  go_enter func124,ntmps124
  go_wp2_with fail;go_ret
  exact ⟨rfl,Keep.refl _ _⟩
theorem Minus_pT (a b:List (Iv K)) (ha:∀ i∈a,i.f<i.l) (hb:∀ i∈b,i.f<i.l) (w:World) (sv tv:Value) (hr:IvR w sv a) (hs:IvR w tv b) (h9:a.length≤10000) (h8:b.length≤10000) :
  Calls prog 74 #[sv,tv] w fun e w'=>∃ v,e = .returned v∧IvR w' v (combK 3 a b)∧Keep [] w w'∧TyI w' v:=by
 have H:=jX (ygz (decV 3) 124 (enters_of func124 (by kernel_rfl) rfl) (fun x y w=>Minus_c x y w) (ycQ 3) a b ha hb w sv tv hr hs h9 h8);obtain⟨ao,ac,rfl,_⟩:=hr.form;obtain⟨bo,bc,rfl,_⟩:=hs.form;clear hr hs ha hb;go_enter func74,ntmps74
 go_wp2_with fail;refine H.out.mono ?_;rintro e w1 ⟨v,out,rfl,hv,h1,h2,hk,ht⟩;dsimp only;have HV:=jX (show IvR w1 v (combK 3 a b) by rw [← yep h1 h2];exact hv)
 have HK:=jX hk;have HT:=jX ht;obtain⟨vo,vc,rfl,_⟩:=hv.form;clear hv h1 h2 hk ht;go_wp2_with fail;go_ret
 exact ⟨_,rfl,HV.out,HK.out,HT.out⟩
theorem Minus_p (a b:List (Iv K)) (ha:∀ i∈a,i.f<i.l) (hb:∀ i∈b,i.f<i.l) (w:World) (sv tv:Value) (hr:IvR w sv a) (hs:IvR w tv b) (h9:a.length≤10000) (h8:b.length≤10000) :
  Calls prog 74 #[sv,tv] w fun e w'=>∃ v,e = .returned v∧IvR w' v (combK 3 a b)∧Keep [] w w':=(Minus_pT a b ha hb w sv tv hr hs h9 h8).mono fun _ _ ⟨v,h1,h2,h3,_⟩=>⟨v,h1,h2,h3⟩
section
open Classical
theorem covers_c (a b:List (Iv K)) (ha:∀ i∈a,i.f<i.l) (hb:∀ i∈b,i.f<i.l) (w:World) (sv tv:Value) (hr:IvR w sv a) (hs:IvR w tv b) (h9:a.length≤10000) (h8:b.length≤10000) :
  Calls prog 50 #[sv,tv] w fun e w'=>e = .returned (.bool (decide (combK 3 b a=[])))∧Keep [] w w':=by
 have H:=jX (Minus_p b a hb ha w tv sv hs hr h8 h9);obtain⟨ao,ac,rfl,_⟩:=hr.form;obtain⟨bo,bc,rfl,_⟩:=hs.form;clear hr hs ha hb;go_enter func50,ntmps50
 go_wp2_with fail;refine H.out.mono ?_;rintro e w1 ⟨v,rfl,hv,hk⟩;dsimp only;have HK:=jX hk;obtain⟨vo,vc,rfl,_⟩:=hv.form;obtain⟨r,hr⟩:∃ r,decide (combK 3 b a=[])=r:=⟨_,rfl⟩
 have hd:(((combK 3 b a).length:Int) == 0)=r:=by
  rw [← hr,Bool.eq_iff_iff,beq_iff_eq,decide_eq_true_iff,← List.length_eq_zero_iff];omega
 have HRr:=jX hr;clear hv hk H hr;generalize (combK 3 b a).length=n at *;go_wp2_with fail;go_ret
 exact ⟨by rw [HRr.out];rfl,HK.out⟩
end
section
open Classical
theorem cmpB_le (a b:Bd K):cmpB a b≤0↔a≤b:=by
 rcases ycS a b with ⟨h,g⟩|⟨h,g⟩|⟨h,g⟩
 ·rw [h];exact ⟨fun h2=>absurd h2 (by decide),fun h2=>by grind⟩
 ·rw [h];exact ⟨fun _=>by grind,fun _=>by decide⟩
 rw [h];exact ⟨fun _=>by grind,fun _=>by decide⟩
theorem bd_built (x:K) (o:Bool):prog.built 114 [(0,kv x),(1,.bool o)]=some (bC ⟨x,o⟩):=ydo _ _ _ _ _ _ _ _
theorem contains1_c (i:Iv K) (t:K) (w:World) (g:Nat) (hb:w.heap[g]? = some (.cells (kC t) 30)) :
  Calls prog 115 #[iv i,.pointer (some ⟨g,0,none⟩)] w fun e w'=>e = .returned (.bool (decide (i.f≤⟨t,false⟩∧(⟨t,true⟩:Bd K)≤i.l)))∧Keep [] w w':=by
 have HF:=jX (fun w=>yeN i w);have HL:=jX (fun w=>ygD i w);have HC1:=jX (fun w=>yfC i.f ⟨t,false⟩ w);have HC2:=jX (fun w=>yfC ⟨t,true⟩ i.l w);have B1:=jX (bd_built t false);have B2:=jX (bd_built t true);have hd1:decide (cmpB i.f ⟨t,false⟩≤0)=decide (i.f≤⟨t,false⟩):=by rw [Bool.eq_iff_iff,decide_eq_true_iff,decide_eq_true_iff];exact cmpB_le _ _
 have hd2:decide (cmpB ⟨t,true⟩ i.l≤0)=decide ((⟨t,true⟩:Bd K)≤i.l):=by rw [Bool.eq_iff_iff,decide_eq_true_iff,decide_eq_true_iff];exact cmpB_le _ _
 have hres:decide (i.f≤⟨t,false⟩∧(⟨t,true⟩:Bd K)≤i.l)=(decide (cmpB i.f ⟨t,false⟩≤0)&&decide (cmpB ⟨t,true⟩ i.l≤0)):=by rw [hd1,hd2,Bool.decide_and]
 rw [hres];clear hd1 hd2 hres;generalize cmpB i.f ⟨t,false⟩=n1 at *;generalize cmpB ⟨t,true⟩ i.l=n2 at *;have ho:iv i = .agg (iC i):=rfl;have hk:kv t = .agg (kC t):=rfl;have e1:bv i.f = .agg (bC i.f):=rfl;have e2:bv i.l = .agg (bC i.l):=rfl;have e3:bv ⟨t,false⟩ = .agg (bC ⟨t,false⟩):=rfl;have e4:bv ⟨t,true⟩ = .agg (bC ⟨t,true⟩):=rfl;rw [ho];rw [ho,e1] at HF;rw [ho,e2] at HL;rw [e1,e3] at HC1;rw [e2,e4] at HC2;rw [hk] at B1 B2;clear ho hk e1 e2 e3 e4;by_cases h1:n1≤0
 ·have hd:decide (n1≤0)=true:=decide_eq_true h1
  rw [hd,Bool.true_and];go_enter func115,ntmps115
  go_upto_region 1 with (fail)
  obtain⟨W,ga,hW,ega,Bga,hga,hgW,HkW⟩:=al1h w (.cells (iC i) 32);rw [← hW];try rw [ega]
  clear hW ega;have HLi:=jX ((yap Bga.out).ld (yaa Bga.out));have HLt:=jX (kw_k (HkW.out.heap hb (by simp)));have hiv:iv i = .agg (iC i):=rfl;have hkv:kv t = .agg (kC t):=rfl;rw [hiv] at HLi;rw [hkv] at HLt;clear hiv hkv hb Bga;have Q1:Hid (∀ m:KW W,Calls prog 77 #[.agg (iC i)] (Wk W m) fun e w'=>e = .returned (.agg (bC i.f))∧∃ m,w'=Wk W m):=fun m=>qk m (HF.out _);have Q2:Hid (∀ m:KW W,Calls prog 78 #[.agg (iC i)] (Wk W m) fun e w'=>e = .returned (.agg (bC i.l))∧∃ m,w'=Wk W m):=fun m=>qk m (HL.out _);have Q3:Hid (∀ m:KW W,Calls prog 76 #[.agg (bC i.f),.agg (bC ⟨t,false⟩)] (Wk W m) fun e w'=>e = .returned (.int .i64 n1)∧∃ m,w'=Wk W m):=fun m=>qk m (HC1.out _);have Q4:Hid (∀ m:KW W,Calls prog 76 #[.agg (bC ⟨t,true⟩),.agg (bC i.l)] (Wk W m) fun e w'=>e = .returned (.int .i64 n2)∧∃ m,w'=Wk W m):=fun m=>qk m (HC2.out _);clear HF HL HC1 HC2;generalize iC i=I at *;generalize kC t=T at *;generalize bC i.f=F at *;generalize bC i.l=L at *;generalize bC ⟨t,false⟩=T0 at *;generalize bC ⟨t,true⟩=T1 at *;refine yae (by kernel_rfl) (by kernel_rfl) ?_
  repeat (first
   | go_big_quiet_skip
   | (go_big_quiet_want;first
    | (refine yan _ _ _ (.agg I) rfl rfl (by rintro _ ⟨m,rfl⟩;exact HLi.out m) ?_;go_simp;go_big_quiet_on)|(refine yan _ _ _ (.agg T) rfl rfl (by rintro _ ⟨m,rfl⟩;exact HLt.out m) ?_;go_simp;go_big_quiet_on)|(refine ycA _ _ #[(0,.agg T),(1,.bool false)] (T0) rfl (by simp only [List.map_toArray,List.map_cons,List.map_nil];rfl) B1.out ?_;go_simp;go_big_quiet_on)|(refine ycA _ _ #[(0,.agg T),(1,.bool true)] (T1) rfl (by simp only [List.map_toArray,List.map_cons,List.map_nil];rfl) B2.out ?_;go_simp;go_big_quiet_on)
    | (go_big_quiet_op;first|go_big_quiet_on|go_big_quiet_call (first
     | (go_at_call 77;with_reducible exact (Q1).out _)|(go_at_call 78;with_reducible exact (Q2).out _)|(go_at_call 76;with_reducible exact (Q3).out _)|(go_at_call 76;with_reducible exact (Q4).out _)))))
  refine wpQuiet_nil ?_;rintro w2 ⟨⟨_,hk_w2⟩,rfl⟩;go_wp2_with fail;go_ret
  exact ⟨rfl,HkW.out.tz hk_w2⟩
 have hd:decide (n1≤0)=false:=decide_eq_false h1;rw [hd,Bool.false_and];go_enter func115,ntmps115
 go_upto_region 1 with (fail)
 obtain⟨W,ga,hW,ega,Bga,hga,hgW,HkW⟩:=al1h w (.cells (iC i) 32);rw [← hW];try rw [ega]
 clear hW ega;have HLi:=jX ((yap Bga.out).ld (yaa Bga.out));have HLt:=jX (kw_k (HkW.out.heap hb (by simp)));have hiv:iv i = .agg (iC i):=rfl;have hkv:kv t = .agg (kC t):=rfl;rw [hiv] at HLi;rw [hkv] at HLt;clear hiv hkv hb Bga;have Q1:Hid (∀ m:KW W,Calls prog 77 #[.agg (iC i)] (Wk W m) fun e w'=>e = .returned (.agg (bC i.f))∧∃ m,w'=Wk W m):=fun m=>qk m (HF.out _);have Q2:Hid (∀ m:KW W,Calls prog 78 #[.agg (iC i)] (Wk W m) fun e w'=>e = .returned (.agg (bC i.l))∧∃ m,w'=Wk W m):=fun m=>qk m (HL.out _);have Q3:Hid (∀ m:KW W,Calls prog 76 #[.agg (bC i.f),.agg (bC ⟨t,false⟩)] (Wk W m) fun e w'=>e = .returned (.int .i64 n1)∧∃ m,w'=Wk W m):=fun m=>qk m (HC1.out _);have Q4:Hid (∀ m:KW W,Calls prog 76 #[.agg (bC ⟨t,true⟩),.agg (bC i.l)] (Wk W m) fun e w'=>e = .returned (.int .i64 n2)∧∃ m,w'=Wk W m):=fun m=>qk m (HC2.out _);clear HF HL HC1 HC2;generalize iC i=I at *;generalize kC t=T at *;generalize bC i.f=F at *;generalize bC i.l=L at *;generalize bC ⟨t,false⟩=T0 at *;generalize bC ⟨t,true⟩=T1 at *;refine yae (by kernel_rfl) (by kernel_rfl) ?_
 repeat (first
  | go_big_quiet_skip
  | (go_big_quiet_want;first
   | (refine yan _ _ _ (.agg I) rfl rfl (by rintro _ ⟨m,rfl⟩;exact HLi.out m) ?_;go_simp;go_big_quiet_on)|(refine yan _ _ _ (.agg T) rfl rfl (by rintro _ ⟨m,rfl⟩;exact HLt.out m) ?_;go_simp;go_big_quiet_on)|(refine ycA _ _ #[(0,.agg T),(1,.bool false)] (T0) rfl (by simp only [List.map_toArray,List.map_cons,List.map_nil];rfl) B1.out ?_;go_simp;go_big_quiet_on)|(refine ycA _ _ #[(0,.agg T),(1,.bool true)] (T1) rfl (by simp only [List.map_toArray,List.map_cons,List.map_nil];rfl) B2.out ?_;go_simp;go_big_quiet_on)
   | (go_big_quiet_op;first|go_big_quiet_on|go_big_quiet_call (first
    | (go_at_call 77;with_reducible exact (Q1).out _)|(go_at_call 78;with_reducible exact (Q2).out _)|(go_at_call 76;with_reducible exact (Q3).out _)|(go_at_call 76;with_reducible exact (Q4).out _)))))
 refine wpQuiet_nil ?_;rintro w2 ⟨⟨_,hk_w2⟩,rfl⟩;go_wp2_with fail;go_ret
 exact ⟨rfl,HkW.out.tz hk_w2⟩
theorem any_take {α:Type} (p:α→Bool) (l:List α) (k:Nat) (h:k<l.length) (hno:(l.take k).any p=false):(l.take (k+1)).any p=p l[k]:=by
 rw [List.take_succ_eq_append_getElem h,List.any_append,hno];simp
theorem any_early {α:Type} (p:α→Bool) (l:List α) (k:Nat) (h:(l.take k).any p=true):l.any p=true:=by
 rw [List.any_eq_true] at h ⊢;obtain⟨x,hx,h⟩:=h;exact ⟨x,List.mem_of_mem_take hx,h⟩
theorem index_c (l:List (Iv K)) (t:K) (gt:Nat) (w:World) (hb:w.heap[gt]? = some (.cells (kC t) 30)) (sv:Value) (hr:IvR w sv l) (h9:l.length≤1000000000) :
  Calls prog 161 #[sv,.func (.func 115) #[] #[.pointer (some ⟨gt,0,none⟩)]] w fun e w'=>∃ n:Int,e = .returned (.int .i64 n)∧decide (0≤n)=holds l t∧Keep [] w w':=by
 have HR:=jX hr;have Hb:=jX hb;have HC:=jX (fun i w hb=>contains1_c i t w gt hb);obtain⟨ao,ac,rfl,_⟩:=hr.form;clear hr hb;unfold holds;generalize hP:(fun i:Iv K=>decide (i.f≤⟨t,false⟩∧(⟨t,true⟩:Bd K)≤i.l))=P at *;have HP:=jX hP;clear hP;go_enter func161,ntmps161
 go_wp2_with fail;go_loopw [5,8] (fun _ c wr=>∃ k:Nat,k≤l.length∧c = .int .i64 (k:Int)∧(l.take k).any P=false∧Keep [] w wr) (fun _ c _=>l.length-(intOf c).toNat)
 case atStart=>exact ⟨0,Nat.zero_le _,rfl,rfl,Keep.refl _ _⟩
 case round =>
  obtain⟨k,hk,rfl,hno,hkeep⟩:=hrel;have Hno:=jX hno;have HKr:=jX hkeep;clear hno hkeep;by_cases hlt:k<l.length
  ·obtain⟨g,o,rfl,hg,hat⟩:=IvR.elem (HR.out.later HKr.out) k hlt
   have Hnx:=jX (any_take P l k hlt Hno.out);obtain⟨i,hi⟩:∃ i,l[k]=i:=⟨_,rfl⟩;rw [hi] at Hnx hat;have H1:=jX (HC.out i wr (HKr.out.heap Hb.out (by simp)));obtain⟨p,hp⟩:∃ p,o+k*20=p:=⟨_,rfl⟩;rw [hp] at hat;have HL:=jX (yaE wr g p i hat);have hPi:decide (i.f≤⟨t,false⟩∧(⟨t,true⟩:Bd K)≤i.l)=P i:=by rw [← HP.out]
   have HPi:=jX hPi;rw [hPi] at H1;clear hi hat hPi;have hiv:iv i = .agg (iC i):=rfl;rw [hiv] at H1 HL;clear hiv;generalize P i=r at *;generalize iC i=I at *;go_upto_region 4 with (fail)
   refine wp_region_lit ?_;refine' yab (v:=_) (by rfl) (?ha) (fun K hK=>?ka)
   case ha=>(go_simp;try rfl)
   go_simp;refine hK _ _ ?_;clear hK K;refine' yab (v:=_) (by rfl) (?hb) (fun K hK=>?kb)
   case hb=>(go_simp;try rfl)
   go_simp;refine hK _ _ ?_;clear hK K;refine' yab (v:=_) (by rfl) (?hc) (fun K hK=>?kc)
   case hc=>(go_simp;try rfl)
   go_simp;refine hK _ _ ?_;clear hK K;refine' yab (v:=_) (by rfl) (?hd) (fun K hK=>?kd)
   case hd=>(go_simp;try rfl)
   go_simp;refine hK _ _ ?_;clear hK K;refine yab (v:=.agg I) (by rfl) (yad _ _ ⟨g,p,none⟩ _ rfl rfl HL.out) (fun K hK=>?_);go_simp;refine hK _ _ ?_;clear hK K;refine wpList_plain (by rfl) (fun K hK=>?_);refine yaf 115 #[.agg I,.pointer (some ⟨gt,0,none⟩)] (by go_simp) ?_;refine H1.out.mono ?_;rintro e w3 ⟨rfl,hk3⟩;refine ⟨_,rfl,?_⟩;go_simp;refine hK _ _ ?_;clear hK K;have HKx:=jX (HKr.out.tz hk3);clear hk3 H1 HL HPi;cases r with
   | true =>
    go_wp2_with fail;go_ret
    exact ⟨(k:Int),rfl,by rw [any_early P l _ Hnx.out];exact decide_eq_true (by omega),HKx.out⟩
   | false =>
    go_wp2_with fail;go_roundw
    case rel=>exact ⟨k+1,by omega,congrArg (Value.int .i64) (by omega),Hnx.out,HKx.out⟩
    case measure=>simp [intOf];omega
  have hkl:l.take k=l:=List.take_of_length_le (by omega);have HF:Hid (l.any P=false):=by rw [← hkl];exact Hno.out
  clear hkl Hno;go_wp2_with fail;go_ret
  exact ⟨-1,rfl,by rw [HF.out];rfl,HKr.out⟩
theorem contF_c (l:List (Iv K)) (t:K) (gt:Nat) (w:World) (hb:w.heap[gt]? = some (.cells (kC t) 30)) (sv:Value) (hr:IvR w sv l) (h9:l.length≤1000000000) :
  Calls prog 114 #[sv,.func (.func 115) #[] #[.pointer (some ⟨gt,0,none⟩)]] w fun e w'=>e = .returned (.bool (holds l t))∧Keep [] w w':=by
 have H:=jX (index_c l t gt w hb sv hr h9);obtain⟨ao,ac,rfl,_⟩:=hr.form;clear hr hb;go_enter func114,ntmps114
 go_wp2_with fail;refine H.out.mono ?_;rintro e w2 ⟨n,rfl,hn,hk⟩;dsimp only;have HK:=jX hk;clear hk;go_wp2_with fail;go_ret
 exact ⟨rfl,HK.out⟩
theorem contains_c (l:List (Iv K)) (t:K) (w:World) (sv:Value) (hr:IvR w sv l) (h9:l.length≤1000000000) :
  Calls prog 56 #[sv,kv t] w fun e w'=>e = .returned (.bool (holds l t))∧Keep [] w w':=by
 have HR:=jX hr;have HC:=jX (fun w gt hb sv hr=>contF_c l t gt w hb sv hr h9);obtain⟨ao,ac,rfl,_⟩:=hr.form;clear hr h9;show Calls prog 56 #[_,.agg (kC t)] w _
 go_enter func56,ntmps56
 go_upto_region 1 with (fail)
 obtain⟨W,ga,hW,ega,Bga,hga,hgW,HkW⟩:=al1h w (.cells (kC t) 30);rw [← hW];try rw [ega]
 clear hW ega;have H:=jX (HC.out W ga Bga.out _ (HR.out.later HkW.out));clear HC;go_wp2_with fail;refine H.out.mono ?_;rintro e w2 ⟨rfl,hk⟩;dsimp only;have HK:=jX (HkW.out.tz hk);clear hk;go_wp2_with fail;go_ret
 exact ⟨rfl,HK.out⟩
end
section
open Go.ChangeShapes Go.WideShapes Go.ChangeAt
theorem cells_bool:prog.cellsOf 4=1:=by kernel_rfl
section
variable {H:Type} {enc:TypeId × Value→H} {w:World} {base:Nat} {held:Bool} {fuel:Nat}
end
end
section
open Go.ChangeShapes Go.WideShapes Go.ChangeAt
theorem agg_of_cells {v:Value} {l:List Value} (h:v.cells.toList=l) (hl:l.length≠1):v = .agg l.toArray:=by
 cases v with
 | agg c=>subst h;simp [Value.cells]
 | _=>subst h;exact absurd rfl hl
end
section
open Go.ChangeShapes Go.WideShapes Go.ChangeAt
theorem cells_str:prog.cellsOf 9=1:=by kernel_rfl
theorem cells_zint:prog.cellsOf 26=2:=by kernel_rfl
theorem cells_zrat:prog.cellsOf 28=4:=by kernel_rfl
theorem cells_zreal:prog.cellsOf 30=9:=by kernel_rfl
section
variable {H:Type} {enc:TypeId × Value→H} {w:World} {base:Nat} {held:Bool} {fuel:Nat}
def Wt (t:TypeId) (d:DataW H) (B:Nat):Prop:=∀ n∈d.weights prog t,n≤B
theorem wt_head {t:TypeId} {ts:List TypeId} {d:DataW H} {r:List (DataW H)} (h:(DataW.weightsEach prog (t :: ts) (d :: r)).all (· ≤ reachBytes)=true):Wt t d reachBytes:=fun n hn=>by
 have:=List.all_eq_true.1 h n (by rw [DataW.weightsEach];exact List.mem_append_left _ hn)
 simpa using this
theorem wt_tail {t:TypeId} {ts:List TypeId} {d:DataW H} {r:List (DataW H)} (h:(DataW.weightsEach prog (t :: ts) (d :: r)).all (· ≤ reachBytes)=true):(DataW.weightsEach prog ts r).all (· ≤ reachBytes)=true:=by
 rw [DataW.weightsEach,List.all_append,Bool.and_eq_true] at h;exact h.2
theorem zint_w (a b:DataW H):(DataW.agg [a,b]:DataW H).weights prog 26=a.weights prog 4++b.weights prog 9:=by
 simp [DataW.weights,DataW.weightsEach,underlying26]
theorem zrat_w (a b:DataW H):(DataW.agg [a,b]:DataW H).weights prog 28=a.weights prog 26++b.weights prog 26:=by
 simp [DataW.weights,DataW.weightsEach,underlying28]
theorem zreal_w (a b c:DataW H):(DataW.agg [a,b,c]:DataW H).weights prog 30=a.weights prog 28++(b.weights prog 28++c.weights prog 4):=by
 simp [DataW.weights,DataW.weightsEach,underlying30]
theorem zint_trod {cs:List Value} {x:DataW H × List MemPlace} (h:DataW.trod enc prog w base (fun _=>true) held fuel 26 cs=some x):∃ (b:Bool) (s:ByteArray),cs=[.bool b,.string s]∧∀ B,Wt 26 x.1 B→s.size≤B:=by
 obtain⟨xs,n,_,rfl,hl,hlen,hf⟩:=DataW.trod_struct underlying26 h;rw [cells_zint] at hl
 match cs,hl with
 | [c0,c1],_ =>
  match xs,hlen with
  | [x0,x1],_ =>
   have h0:DataW.trod enc prog w base (fun _=>true) held n 4 (([c0,c1].drop 0).take (prog.cellsOf 4))=some x0:=hf 0 _ rfl;have h1:DataW.trod enc prog w base (fun _=>true) held n 9 (([c0,c1].drop 1).take (prog.cellsOf 9))=some x1:=hf 1 _ rfl;rw [cells_bool] at h0;rw [cells_str] at h1;obtain⟨b,e0,_⟩:=DataW.trod_bool underlying4 h0;obtain⟨s,e1,rfl,_⟩:=DataW.trod_string underlying9 h1;simp at e0 e1;refine ⟨b,s,by rw [e0,e1],fun B hB=>hB _ ?_⟩;simp only [List.map_cons,List.map_nil];rw [zint_w];exact List.mem_append_right _ (by simp [DataW.weights])
theorem zrat_trod {cs:List Value} {x:DataW H × List MemPlace} (h:DataW.trod enc prog w base (fun _=>true) held fuel 28 cs=some x):∃ (b:Bool) (s:ByteArray) (d:Bool) (t:ByteArray),cs=[.bool b,.string s,.bool d,.string t]∧∀ B,Wt 28 x.1 B→s.size≤B∧t.size≤B:=by
 obtain⟨xs,n,_,rfl,hl,hlen,hf⟩:=DataW.trod_struct underlying28 h;rw [cells_zrat] at hl
 match cs,hl with
 | [c0,c1,c2,c3],_ =>
  match xs,hlen with
  | [x0,x1],_ =>
   have h0:DataW.trod enc prog w base (fun _=>true) held n 26 (([c0,c1,c2,c3].drop 0).take (prog.cellsOf 26))=some x0:=hf 0 _ rfl;have h1:DataW.trod enc prog w base (fun _=>true) held n 26 (([c0,c1,c2,c3].drop 2).take (prog.cellsOf 26))=some x1:=hf 1 _ rfl;rw [cells_zint] at h0 h1;obtain⟨b,s,e0,g0⟩:=zint_trod h0;obtain⟨d,t,e1,g1⟩:=zint_trod h1;simp at e0 e1;refine ⟨b,s,d,t,by rw [e0.1,e0.2,e1.1,e1.2],fun B hB=>?_⟩;simp only [List.map_cons,List.map_nil,Wt] at hB;rw [zrat_w] at hB;exact ⟨g0 B fun n hn=>hB n (List.mem_append_left _ hn),g1 B fun n hn=>hB n (List.mem_append_right _ hn)⟩
theorem zreal_trod {cs:List Value} {x:DataW H × List MemPlace} (h:DataW.trod enc prog w base (fun _=>true) held fuel 30 cs=some x):∃ r:RawR,cs=r.cells∧∀ B,Wt 30 x.1 B→r.sz B:=by
 obtain⟨xs,n,_,rfl,hl,hlen,hf⟩:=DataW.trod_struct underlying30 h;rw [cells_zreal] at hl
 match cs,hl with
 | [c0,c1,c2,c3,c4,c5,c6,c7,c8],_ =>
  match xs,hlen with
  | [x0,x1,x2],_ =>
   have h0:DataW.trod enc prog w base (fun _=>true) held n 28 (([c0,c1,c2,c3,c4,c5,c6,c7,c8].drop 0).take (prog.cellsOf 28))=some x0:=hf 0 _ rfl;have h1:DataW.trod enc prog w base (fun _=>true) held n 28 (([c0,c1,c2,c3,c4,c5,c6,c7,c8].drop 4).take (prog.cellsOf 28))=some x1:=hf 1 _ rfl;have h2:DataW.trod enc prog w base (fun _=>true) held n 4 (([c0,c1,c2,c3,c4,c5,c6,c7,c8].drop 8).take (prog.cellsOf 4))=some x2:=hf 2 _ rfl;rw [cells_zrat] at h0 h1;rw [cells_bool] at h2;obtain⟨b,s,d,t,e0,g0⟩:=zrat_trod h0;obtain⟨b',s',d',t',e1,g1⟩:=zrat_trod h1;obtain⟨g,e2,_⟩:=DataW.trod_bool underlying4 h2;simp at e0 e1 e2;refine ⟨⟨b,s,d,t,b',s',d',t',g⟩,by simp only [RawR.cells];rw [e0.1,e0.2.1,e0.2.2.1,e0.2.2.2,e1.1,e1.2.1,e1.2.2.1,e1.2.2.2,e2],fun B hB=>?_⟩;simp only [List.map_cons,List.map_nil,Wt] at hB;rw [zreal_w] at hB;have a0:=g0 B fun n hn=>hB n (List.mem_append_left _ hn);have a1:=g1 B fun n hn=>hB n (List.mem_append_right _ (List.mem_append_left _ hn));exact ⟨a0.1,a0.2,a1.1,a1.2⟩
end
end
section
variable {P:Program} {ops:Array Oper} {Q:Exit→Act→World→Prop} {rest:List Oper} {o:Oper} {a:Act} {w:World}
theorem gWC (hw:Region.wanted o (yielded ops a.tmps)=true)
  (h:∀ K:Act→World→Prop,(∀ a w,wpList P ops Q rest a w→K a w)→o.wp P a w K Q):wpList P ops Q (o :: rest) a w:=by
 unfold wpList;rw [if_pos hw];exact .inl (h _ fun _ _ h=>h)
theorem gWE (hw:Region.wanted o (yielded ops a.tmps)=true)
  (h:∃ v,(execOp a.eval o).run P w = .ok (.value v) w∧∀ K:Act→World→Prop,(∀ a w,wpList P ops Q rest a w→K a w)→K (a.put o.dst v) w):wpList P ops Q (o :: rest) a w:=by
 obtain⟨v,h1,h2⟩:=h;exact gWC hw fun K hK=>ybH v w h1 (h2 K hK)
theorem gWS (hw:Region.wanted o (yielded ops a.tmps)=false)
  (h:∀ K:Act→World→Prop,(∀ a w,wpList P ops Q rest a w→K a w)→K (a.put o.dst undef) w):wpList P ops Q (o :: rest) a w:=by
 unfold wpList;rw [hw];exact h _ fun _ _ h=>h
end
section
open Classical
theorem mvK_back {k:Nat} {x:K} {q:Rat} (h:Sm k x) (hk:k≤900) (hq:FitQ 24 q):mvK (-q) (mvK q x)=x:=by
 refine Subtype.ext ?_;rw [ybA (yeq h (by omega) hq) (by omega) hq.neg,ybA h (by omega) hq];unfold mvQ;have e:x.1.p+q + -q=x.1.p:=by grind
 rw [e]
end
section
open Classical
section
variable {S:List K} {w0 w w':World} {L:List (Value × List (Iv K))}
variable {v u:Value} {a b:List (Iv K)}
def BoolPost (S:List K) (w0:World) (L:List (Value × List (Iv K))) (r:Bool) (e:Ending) (w':World):Prop:=e = .returned (.bool r)∧MP S w0 w' L
theorem boolPost_of (h:MP S w0 w L) {r:Bool} {f:Nat} {args:Array Value} (hc:Calls prog f args w fun e w'=>e = .returned (.bool r)∧Keep [] w w'):Calls prog f args w (BoolPost S w0 L r) :=
 hc.mono fun e w' ⟨he,hk⟩=>⟨he,h.move hk⟩
theorem MP.cov (h:MP S w0 w L) (hv:(v,a)∈L) (hu:(u,b)∈L):Calls prog 50 #[v,u] w (BoolPost S w0 L (decide (combK 3 b a=[]))) :=
 boolPost_of h (covers_c a b (h.val hv) (h.val hu) w v u (h.get hv) (h.get hu) (by have:=h.len hv;omega) (by have:=h.len hu;omega))
end
end
section
open Classical
theorem pw_cases {α:Type} {R:α→α→Prop} {a b:α}:∀ {l:List α},l.Pairwise R→a∈l→b∈l→a=b∨R a b∨R b a
 | [],_,h,_=>by cases h
 | x :: l,hp,ha,hb=>by
  rw [List.pairwise_cons] at hp;rcases List.mem_cons.1 ha with h1|ha'
  ·rcases List.mem_cons.1 hb with h2|hb'
   ·exact .inl (h1.trans h2.symm)
   exact .inr (.inl (h1 ▸ hp.1 _ hb'))
  rcases List.mem_cons.1 hb with h2|hb'
  ·exact .inr (.inr (h2 ▸ hp.1 _ ha'))
  exact pw_cases hp.2 ha' hb'
theorem sub_in {T D:List (Iv K)} (hD:Norm D) (hT:∀ i∈T,i.f<i.l) (hs:SubL T D):∀ i∈T,∃ j∈D,j.f≤i.f∧i.l≤j.l:=by
 intro i hi;have hv:=hT i hi;obtain⟨j,hj,h1,h2⟩:=hasL_ex.1 (hs i.f (hasL_ex.2 ⟨i,hi,by grind,hv⟩));refine ⟨j,hj,h1,?_⟩;apply Classical.byContradiction;intro hn;have h3:j.l<i.l:=by grind
 obtain⟨j',hj',h4,h5⟩:=hasL_ex.1 (hs j.l (hasL_ex.2 ⟨i,hi,by grind,h3⟩));have hvj:=hD.val j hj;rcases pw_cases hD.pair hj hj' with rfl|h|h<;>grind
section
variable {k:Nat} {q:Rat} (hk:k≤900) (hq:FitQ 24 q)
include hk hq
end
end
section
open Classical
section
variable {k:Nat} {q:Rat} (hk:k≤900) (hq:FitQ 24 q)
include hk hq
end
section
variable {k:Nat} (hk:k≤800)
include hk
end
theorem sub_cov {a b:List (Iv K)} (h:SubL a b):combK 3 a b=[]:=yeK (l:=[]) trivial fun x=>by
 rw [yeZ];show false=(hasL a x && !hasL b x)
 cases ha:hasL a x
 ·rfl
 rw [h x ha];rfl
theorem cov_sub {a b:List (Iv K)}:combK 3 a b=[]↔SubL a b:=by
 refine ⟨fun h x hx=>?_,sub_cov⟩;have:=combK_has 3 a b x;rw [h,yeZ] at this;have this:false=(hasL a x && !hasL b x):=this;rw [hx] at this;cases hb:hasL b x
 ·rw [hb] at this;cases this
 rfl
theorem ero_law {k:Nat} (hk:k≤800) {q:Rat} (hq:FitQ 24 q) (h0:0≤q) {l:List (Iv K)} (hl:Norm l) (sl:∀ i∈l,SmI k i) {t:K} (ht:Sm k t):holds (eroK q l) t=decide (combK 3 [⟨⟨t,false⟩,⟨mvK q t,true⟩⟩] l=[]):=by
 have hb:mvK (-q) (mvK q t)=t:=mvK_back ht (by omega) hq;have hqt:Sm (k+25) (mvK q t):=yeq ht (by omega) hq
 have hle:t≤mvK q t:=by
  rw [K.le_def,ybA ht (by omega) hq];exact fun hlt=>mvQ_le t.2.1.nn h0 hlt
 have hv:∀ i∈[(⟨⟨t,false⟩,⟨mvK q t,true⟩⟩:Iv K)],i.f<i.l:=fun i hi=>by
  rw [List.mem_singleton] at hi;subst hi;rw [Bd.lt_def];grind
 rw [ycY,Bool.eq_iff_iff,decide_eq_true_iff,cov_sub];show hasL (normK (eroL q l)) _=true↔_
 rw [normK_has,hasL_ex];constructor
 ·rintro ⟨i',hi',h1,h2⟩
  obtain⟨⟨i,hi,rfl⟩,hvi⟩:=ygB.1 hi';have g1:i.f≤⟨t,false⟩:=h1;have g2:(⟨t,false⟩:Bd K)<mvB (-q) i.l:=h2
  have g3:(⟨mvK q t,false⟩:Bd K)<i.l:=by
   refine (yhb (k:=k+25) (q:=-q) (by omega) hq.neg hqt ((sl i hi).2.mono (by omega))).1 ?_;dsimp only;rw [hb];exact g2
  intro x hx;obtain⟨j,hj,h3,h4⟩:=hasL_ex.1 hx;rw [List.mem_singleton] at hj;subst hj;refine hasL_ex.2 ⟨i,hi,by dsimp only at h3;grind,?_⟩;dsimp only at h3 h4;rw [Bd.lt_def] at *;rw [Bd.le_def] at h3;grind
 intro hs;obtain⟨j,hj,h3,h4⟩:=sub_in hl hv hs _ (List.mem_singleton.2 rfl);dsimp only at h3 h4
 have g3:(⟨mvK q t,false⟩:Bd K)<j.l:=by
  rw [Bd.le_def] at h4;rw [Bd.lt_def];grind
 have g2:(⟨t,false⟩:Bd K)<mvB (-q) j.l:=by
  have:=(yhb (k:=k+25) (q:=-q) (by omega) hq.neg hqt ((sl j hj).2.mono (by omega))).2 g3;dsimp only at this;rw [hb] at this;exact this
 refine ⟨eroI q j,ygB.2 ⟨⟨j,hj,rfl⟩,?_⟩,h3,g2⟩;show j.f<mvB (-q) j.l
 grind
end
section
open Classical
section
variable {w w':World} {L M:List (Value × List (Iv K))} {v u:Value} {a b l:List (Iv K)}
theorem Ls.cov (h:Ls w L) (hv:(v,a)∈L) (hu:(u,b)∈L):Calls prog 50 #[v,u] w (BPost w (decide (combK 3 b a=[]))) :=
 bPost_of (covers_c a b (h.val hv) (h.val hu) w v u (h _ hv).1 (h _ hu).1 (h _ hv).2.2 (h _ hu).2.2)
theorem Ls.cont (h:Ls w L) (hv:(v,a)∈L) (t:K):Calls prog 56 #[v,kv t] w (BPost w (holds a t)) :=
 bPost_of (contains_c a t w v (h _ hv).1 (Nat.le_trans (h _ hv).2.2 (by decide)))
end
section
variable {α:Type} {enc:α→List Value} {e:TypeId} {k:Nat} {w0 w w':World} {v:Value} {l:List α}
end
end
section
open Classical
open Go.ChangeShapes Go.WideShapes Go.ChangeAt
structure RawF where
 a1:Bool
 a2:ByteArray
 a3:Bool
 a4:ByteArray
def RawF.C (x:RawF):Array Value:=#[.bool x.a1,.string x.a2,.bool x.a3,.string x.a4]
def RawF.v (x:RawF):Value:=.agg x.C
def RawF.sz (x:RawF) (k:Nat):Prop:=x.a2.size≤k∧x.a4.size≤k
def RRArg (_:World) (v:Value):Prop:=∃ x:RawR,v=x.v∧x.sz 140737488351232
theorem RRArg_open {H:Type} {enc:TypeId × Value→H} {W:World} {v:Value} {base:Nat} {d:DataW H} {p:List MemPlace} (hv:Value.okWide prog W .any base 30 v)
  (h:∃ m,DataW.trod enc prog W 0 (fun _=>true) true m 30 v.cells.toList=some (d,p)) (hw:Wt 30 d reachBytes):RRArg W v:=by
 obtain⟨m,hm⟩:=h;obtain⟨r,ha,hs⟩:=zreal_trod hm;exact ⟨r,agg_of_cells ha (by simp [RawR.cells]),hs _ hw⟩
noncomputable def RawF.ok (x:RawF):Bool:=decide (x.a2.size+x.a4.size≤8)&&chkQ x.a1 x.a2 x.a3 x.a4
theorem dn_fit {d:Nat} (h:(dnS d).size≤8):Fit 8 (d:Int):=by
 unfold dnS at h;split at h
 ·rename_i he
  subst he;exact (ybw (n:=1) (by decide)).2.mono (by decide)
 exact h
theorem RawF.ok_some {x:RawF} (h:x.ok=true):∃ q:Rat,FitQ 8 q∧x.C=rC q:=by
 unfold RawF.ok at h;rw [Bool.and_eq_true,decide_eq_true_iff] at h;obtain⟨q,h1,h2,h3,h4⟩:=ydd.1 h.2;refine ⟨q,⟨?_,dn_fit ?_⟩,?_⟩
 ·unfold Fit
  rw [← h2];omega
 ·rw [← h4];omega
 unfold RawF.C;rw [h1,h2,h3,h4];rfl
theorem load_rawR {w:World} {g:Nat} {x:RawR} (h:w.heap[g]? = some (.cells x.cells.toArray 30)):(loadVar 30 ⟨g,0,none⟩).run prog w = .ok (.agg x.cells.toArray) w:=by
 obtain⟨ie,hie,hs⟩:=infoReal;exact Go.Lib.rl_loadVar_cells 30 ie hie isAgg30 g 0 x.cells (by rw [hs];rfl) w (fun k v hk=>by rw [Nat.zero_add,yac h];exact (List.getElem?_toArray ..).trans hk)
noncomputable def RawR.ok (x:RawR):Bool:=decide (x.a2.size+x.a4.size≤8)&&(decide (x.b2.size+x.b4.size≤8)&&decide x.isK)
theorem RawR.ok_some {x:RawR} (h:x.ok=true):∃ t:K,Sm 8 t∧x.cells.toArray=kC t:=by
 unfold RawR.ok at h;simp only [Bool.and_eq_true,decide_eq_true_iff] at h;obtain⟨h1,h2,q,hq,rfl⟩:=h
 have f:FitR 8 q:=by
  refine ⟨⟨?_,dn_fit ?_⟩,⟨?_,dn_fit ?_⟩⟩
  ·unfold Fit;exact Nat.le_trans (Nat.le_add_right _ _) h1
  ·exact Nat.le_trans (Nat.le_add_left _ _) h1
  ·unfold Fit;exact Nat.le_trans (Nat.le_add_right _ _) h2
  exact Nat.le_trans (Nat.le_add_left _ _) h2
 exact ⟨⟨q,hq,f.1.mono (by decide),f.2.mono (by decide)⟩,f,rfl⟩
theorem small_c (x:RawR) (hs:x.sz 140737488351232) (w:World):Calls prog 51 #[x.v] w fun e w'=>e = .returned (.bool x.ok)∧Below w.heap.size w w':=by
 obtain⟨w1,w2⟩:IntKind.i64.wrap ((x.a2.size:Int)+(x.a4.size:Int))=(x.a2.size:Int)+(x.a4.size:Int)∧IntKind.i64.wrap ((x.b2.size:Int)+(x.b4.size:Int))=(x.b2.size:Int)+(x.b4.size:Int):=by
  unfold RawR.sz at hs;exact ⟨IntWalk.i64_in _ (by omega),IntWalk.i64_in _ (by omega)⟩
 clear hs;unfold RawR.ok;by_cases h8:x.a2.size+x.a4.size≤8
 ·have hd:((x.a2.size:Int)+(x.a4.size:Int))≤8:=by omega
  rw [decide_eq_true h8,Bool.true_and];by_cases h9:x.b2.size+x.b4.size≤8
  ·have hd2:((x.b2.size:Int)+(x.b4.size:Int))≤8:=by omega
   have HC:=jX (rchk_p x ⟨by omega,by omega,by omega,by omega⟩);rw [decide_eq_true h9,Bool.true_and];clear h8 h9;generalize decide x.isK=r at *;have HL:=jX (fun (u:World) (g:Nat)=>load_rawR (w:=u) (g:=g) (x:=x));unfold RawR.v at HC ⊢;unfold RawR.cells at HL;obtain⟨a1,a2,a3,a4,b1,b2,b3,b4,n⟩:=x;dsimp only at *;go_enter func51,ntmps51
   go_upto_region 1 with (fail)
   obtain⟨W,ga,hW,ega,Bga,hga,hgW,HkW⟩:=al1h w (.cells #[.bool a1,.string a2,.bool a3,.string a4,.bool b1,.string b2,.bool b3,.string b4,.bool n] 30);rw [← hW];try rw [ega]
   clear hW ega;have pga:=yac Bga.out;refine wp_region_lit ?_;iterate 27 (first|(refine gWE (by rfl) ?_;refine ⟨?_,?_,fun K hK=>?_⟩;rotate_left;(go_simp;try rfl);go_simp;refine hK _ _ ?_;clear hK K)|(refine gWS (by rfl) (fun K hK=>?_);go_simp;refine hK _ _ ?_;clear hK K))
   refine gWE (by rfl) ⟨.agg #[.bool a1,.string a2,.bool a3,.string a4,.bool b1,.string b2,.bool b3,.string b4,.bool n],yad _ _ ⟨ga,0,none⟩ _ rfl rfl (HL.out _ _ Bga.out),fun K hK=>?_⟩;go_simp;refine hK _ _ ?_;clear hK K;refine gWC (by rfl) (fun K hK=>?_);refine yaf 75 #[.agg #[.bool a1,.string a2,.bool a3,.string a4,.bool b1,.string b2,.bool b3,.string b4,.bool n]] (by go_simp) ?_;refine (HC.out _).mono ?_;rintro e9 w4 ⟨rfl,hk⟩;refine ⟨_,rfl,?_⟩;go_simp;refine hK _ _ ?_;clear hK K;have HK:=jX (HkW.out.bz.trans (Below.mono hk HkW.out.size));clear hk HC HL;have e1:errF true = .int .i64 0:=rfl;have e2:errF false = .int .i64 5:=rfl;cases r
   ·rw [e2]
    iterate 2 (first|(refine gWE (by rfl) ?_;refine ⟨?_,?_,fun K hK=>?_⟩;rotate_left;(go_simp;try rfl);go_simp;refine hK _ _ ?_;clear hK K)|(refine gWS (by rfl) (fun K hK=>?_);go_simp;refine hK _ _ ?_;clear hK K))
    go_wp2_with fail;go_ret
    exact ⟨rfl,HK.out⟩
   rw [e1];iterate 2 (first|(refine gWE (by rfl) ?_;refine ⟨?_,?_,fun K hK=>?_⟩;rotate_left;(go_simp;try rfl);go_simp;refine hK _ _ ?_;clear hK K)|(refine gWS (by rfl) (fun K hK=>?_);go_simp;refine hK _ _ ?_;clear hK K))
   go_wp2_with fail;go_ret
   exact ⟨rfl,HK.out⟩
  have hd2:¬ ((x.b2.size:Int)+(x.b4.size:Int))≤8:=by omega
  rw [decide_eq_false h9,Bool.false_and];clear h8 h9;unfold RawR.v;obtain⟨a1,a2,a3,a4,b1,b2,b3,b4,n⟩:=x;dsimp only at *;go_enter func51,ntmps51
  go_upto_region 1 with (fail)
  obtain⟨W,ga,hW,ega,Bga,hga,hgW,HkW⟩:=al1h w (.cells #[.bool a1,.string a2,.bool a3,.string a4,.bool b1,.string b2,.bool b3,.string b4,.bool n] 30);rw [← hW];try rw [ega]
  clear hW ega;have pga:=yac Bga.out;go_wp2_with fail;go_ret
  exact ⟨rfl,HkW.out.bz⟩
 have hd:¬ ((x.a2.size:Int)+(x.a4.size:Int))≤8:=by omega
 rw [decide_eq_false h8,Bool.false_and];clear h8;unfold RawR.v;obtain⟨a1,a2,a3,a4,b1,b2,b3,b4,n⟩:=x;dsimp only at *;go_enter func51,ntmps51
 go_upto_region 1 with (fail)
 obtain⟨W,ga,hW,ega,Bga,hga,hgW,HkW⟩:=al1h w (.cells #[.bool a1,.string a2,.bool a3,.string a4,.bool b1,.string b2,.bool b3,.string b4,.bool n] 30);rw [← hW];try rw [ega]
 clear hW ega;have pga:=yac Bga.out;go_wp2_with fail;go_ret
 exact ⟨rfl,HkW.out.bz⟩
end
section
open Classical
def StsT (w:World) (svs:List StV):Prop:=∀ x∈svs,Ls w [(x.v,x.s.d)]∧TyI w x.v
theorem StsT.grow {w w':World} {vs:List StV} (h:StsT w vs) (hb:Below w.heap.size w w'):StsT w' vs:=fun x hx=>⟨(h x hx).1.grow hb,(h x hx).2.grow hb⟩
theorem s_ne:65≠32:=by decide
theorem StsT.ty {w w':World} {vs:List StV} {F:List Nat} (h:StsT w vs) (hF:∀ g∈F,∃ cur,w.heap[g]? = some (.cells cur 65)) (hk:Keep F w w'):StsT w' vs:=fun x hx=>(h x hx).1.tyE s_ne (h x hx).2 hF hk
end
section
open Classical
open Go.ChangeShapes Go.WideShapes Go.ChangeAt
def EvArg (w:World) (v:Value):Prop:=∃ a c e,v = .agg (fvcells (.slice a (EvA.ps e).length c) e).toArray∧PartsAt w (.slice a (EvA.ps e).length c) (EvA.ps e)
theorem EvArg_open {H:Type} {enc:TypeId × Value→H} {W:World} {v:Value} {base:Nat} {d:DataW H} {p:List MemPlace} (hv:Value.okWide prog W .any base 80 v)
  (h:∃ m,DataW.trod enc prog W 0 (fun _=>true) true m 80 v.cells.toList=some (d,p)):EvArg W v:=by
 obtain⟨m,hm⟩:=h;obtain⟨s,e,ha,hp⟩:=yhx hm;obtain⟨a,c,rfl,_⟩:=hp.form;exact ⟨a,c,e,agg_of_cells ha (by simp [fvcells]),hp⟩
theorem infoVnB:(prog.info? 80).map (fun i=>(i.zero.map Value.cells,i.size,i.bytes))=some (some #[.slice none 0 0,.int .u8 0,.int .u8 0,.int .u8 0,.int .u8 0],5,32):=by kernel_rfl
theorem fill_ev (a:Option Addr) (n c:Nat) (x1 x2 x3 x4:Int):Instr.fill (fun i=>some (i*5,5)) ((Array.range (1*5)).map ((#[.slice none 0 0,.int .u8 0,.int .u8 0,.int .u8 0,.int .u8 0]:Array Value)[· % (#[.slice none 0 0,.int .u8 0,.int .u8 0,.int .u8 0,.int .u8 0]:Array Value).size]!)) #[(0,Value.agg #[.slice a n c,.int .u8 x1,.int .u8 x2,.int .u8 x3,.int .u8 x4])].toList=some #[.slice a n c,.int .u8 x1,.int .u8 x2,.int .u8 x3,.int .u8 x4]:=by kernel_rfl
theorem build1_ev (a:Option Addr) (n c:Nat) (e:EvA) (w:World):(Instr.buildSlice 60 1 #[(0,.agg (fvcells (.slice a n c) e).toArray)]).run prog w = .ok (.slice (some ⟨w.heap.size,0,none⟩) 1 1) (w.alloc (.cells (fvcells (.slice a n c) e).toArray 80)):=by
 have h:=infoVnB;cases hi:prog.info? 80 with
 | none=>rw [hi] at h;cases h
 | some i =>
  rw [hi] at h;simp only [Option.map_some,Option.some.injEq,Prod.mk.injEq] at h;obtain⟨h1,h2,h3⟩:=h;cases hz:i.zero with
  | none=>rw [hz] at h1;cases h1
  | some z =>
   rw [hz] at h1;injection h1 with h1;refine run_buildSlice (P:=prog) w 60 80 1 _ _ i z underlying60 hi hz (by rw [h2];decide) (by rw [h2];decide) ?_;rw [h2,h1];exact fill_ev _ _ _ _ _ _ _
theorem evs_one {w:World} {g:Nat} {s:Value} {e:EvA} {t:TypeId} (h:w.heap[g]? = some (.cells (fvcells s e).toArray t)) (hp:PartsAt w s e.ps):EvsAt w (.slice (some ⟨g,0,none⟩) 1 1) [e] :=
 .inr ⟨g,0,1,rfl,by simp [maxLen],fun i hi=>by
  obtain rfl:i=0:=by simp at hi;omega
  refine ⟨s,fun j v hj=>?_,hp⟩;rw [show 0+0*5+j=j by omega,yac h]
  exact (List.getElem?_toArray ..).trans hj⟩
def DurP (w:World) (d:List (Iv K)) (e:Ending) (w':World):Prop:=∃ g o c a n,e = .returned (.slice (some ⟨g,o,none⟩) 1 c)∧g<w'.heap.size∧w'.cell? ⟨g,o,none⟩=some (.slice a d.length n)∧Ls w' [(.slice a d.length n,d)]∧Below w.heap.size w w'
theorem Steps_one {w:World} {sv:Value} {e:EvA} (h:EvsAt w sv [e]):Calls prog 38 #[sv] w (DurP w (evD e)) :=
 (Steps_s [e] w sv h).mono fun r w' ⟨xa,xc,svs,he,hs,_,hst,hl,hb⟩=>by
  have h1:svs.length=1:=by rw [hl];rfl
  match svs,h1 with
  | [x],_ =>
   obtain⟨g,o,rfl,hg,hat⟩:=hs.elem 0 (by show 0<1;decide)
   have hx:x.s=evS 0 e:=by
    have:[x.s]=[evS 0 e]:=hst;injection this
   have hd:x.s.d=evD e:=by rw [hx];rfl
   have h0:=hat.d0;have hls:=hs.ls (x:=x) (List.mem_singleton.2 rfl);unfold StV.v at hls;change World.cell? _ _=some (StV.v x) at h0;unfold StV.v at h0;rw [hd] at h0 hls;exact ⟨g,o,xc,x.a,x.c,he,hg,by simpa using h0,hls,hb⟩
theorem evD_sm (e:EvA):∀ i∈evD e,SmI 5 i:=fun i hi=>⟨evPts_sm e _ (evD_pts e i hi).1,evPts_sm e _ (evD_pts e i hi).2⟩
theorem evD_few (e:EvA):Few 8 (evD e):=⟨evPts e,yfp e,evD_pts e⟩
theorem evD_norm (e:EvA):Norm (evD e):=yaq _ _ _
end
section
open Classical
theorem half24 {n:Int} (h:n.natAbs≤1000):FitQ 24 (half n):=(yaX h).mono (by decide)
theorem patternErodes_c (w:World) (v0:Value) (a1:Int) (w1:(Lit.int .u8 a1).wf=true) (v2:Value) (m0:EvArg w v0) (m2:RRArg w v2) :
  Calls prog 9 #[v0,.int .u8 a1,v2] w fun e w'=>e = .returned (.bool true)∧Below w.heap.size w w':=by
 obtain⟨pa,pc,ev,rfl,hpt⟩:=m0;obtain⟨x,rfl,hsz⟩:=m2;obtain⟨b1,b2⟩:=Go.bounds_u8 w1;obtain⟨n,rfl⟩:∃ n:Nat,a1=(n:Int):=⟨a1.toNat,by omega⟩;have HF:=jX (small_c x hsz);have HP:=jX hpt;have HK:=jX (fun u=>known51_c u);have HLr:=jX (fun (u:World) (g:Nat)=>load_rawR (w:=u) (g:=g) (x:=x));have hvx:x.v = .agg x.cells.toArray:=rfl;rw [hvx] at HF ⊢;clear hsz hpt w1 hvx;cases hok:x.ok with
 | false =>
  rw [hok] at HF;clear hok;generalize x.cells.toArray=X at *;go_enter func9,ntmps9
  go_upto_region 1 with (fail)
  obtain⟨W,ga,gb,hW,ega,egb,Bga,Bgb,hga,hgb,hgW,HkW⟩:=al2h w (.cells (fvcells (.slice pa ev.ps.length pc) ev).toArray 80) (.cells X 30);rw [← hW];try rw [egb]
  try rw [ega]
  clear hW ega egb;refine wp_region_lit ?_;refine wpList_plain (by rfl) (fun K hK=>?_);refine yaf 36 #[] (by go_simp) ?_;refine (HK.out _).mono ?_;rintro e9 w3 ⟨rfl,hb⟩;refine ⟨_,rfl,?_⟩;go_simp;refine hK _ _ ?_;clear hK K;have HB:=jX (HkW.out.bz.trans (Below.mono hb HkW.out.size));have Bgb:=jX ((hb.block gb (yaa Bgb.out)).trans Bgb.out);clear hb;iterate 2 (first|(refine gWE (by rfl) ?_;refine ⟨?_,?_,fun K hK=>?_⟩;rotate_left;(go_simp;try rfl);go_simp;refine hK _ _ ?_;clear hK K)|(refine gWS (by rfl) (fun K hK=>?_);go_simp;refine hK _ _ ?_;clear hK K))
  refine gWE (by rfl) ⟨.agg X,yad _ _ ⟨gb,0,none⟩ _ rfl rfl (HLr.out _ _ Bgb.out),fun K hK=>?_⟩;go_simp;refine hK _ _ ?_;clear hK K;refine gWC (by rfl) (fun K hK=>?_);refine yaf 51 #[.agg X] (by go_simp) ?_;refine (HF.out _).mono ?_;rintro e9 w4 ⟨rfl,hb⟩;refine ⟨_,rfl,?_⟩;go_simp;refine hK _ _ ?_;clear hK K;have HB:=jX (HB.out.trans (Below.mono hb HB.out.size));clear hb HF HLr;iterate 2 (first|(refine gWE (by rfl) ?_;refine ⟨?_,?_,fun K hK=>?_⟩;rotate_left;(go_simp;try rfl);go_simp;refine hK _ _ ?_;clear hK K)|(refine gWS (by rfl) (fun K hK=>?_);go_simp;refine hK _ _ ?_;clear hK K))
  go_wp2_with fail;refine (HK.out _).mono ?_;rintro e w5 ⟨rfl,hb⟩;dsimp only;have HB:=jX (HB.out.trans (Below.mono hb HB.out.size));clear hb;go_wp2_with fail;go_ret
  exact ⟨rfl,HB.out⟩
 | true =>
  obtain⟨t,ht,hx⟩:=RawR.ok_some hok;rw [hok] at HF;rw [hx] at HF HLr ⊢;clear hok hx;have Ht:=jX ht;have H0:=jX (half_nn (n:=((n % 31:Nat):Int)) (by omega));have Hq:=jX (half24 (n:=((n % 31:Nat):Int)) (by omega));have HI:=jX (fun u=>yfA ((n % 31:Nat):Int) (by omega) u);obtain⟨q,hq⟩:∃ q,half ((n % 31:Nat):Int)=q:=⟨_,rfl⟩;rw [hq] at H0 Hq HI;have hm31:=ydR n 31 (by decide) (by decide);rw [show (((n % 31:Nat):Nat):Int)=(n:Int) % 31 by omega,yaw] at HI
  clear hq ht;go_enter func9,ntmps9
  go_upto_region 1 with (fail)
  obtain⟨W,ga,gb,hW,ega,egb,Bga,Bgb,hga,hgb,hgW,HkW⟩:=al2h w (.cells (fvcells (.slice pa ev.ps.length pc) ev).toArray 80) (.cells (kC t) 30);rw [← hW];try rw [egb]
  try rw [ega]
  clear hW ega egb;have HP:=jX (HP.out.later HkW.out.bz);refine wp_region_lit ?_;refine wpList_plain (by rfl) (fun K hK=>?_);refine yaf 36 #[] (by go_simp) ?_;refine (HK.out _).mono ?_;rintro e9 w3 ⟨rfl,hb⟩;refine ⟨_,rfl,?_⟩;go_simp;refine hK _ _ ?_;clear hK K;have HB:=jX (HkW.out.bz.trans (Below.mono hb HkW.out.size));have HP:=jX (HP.out.later hb);have Bga:=jX ((hb.block ga (yaa Bga.out)).trans Bga.out);have Bgb:=jX ((hb.block gb (yaa Bgb.out)).trans Bgb.out);clear hb HK;iterate 2 (first|(refine gWE (by rfl) ?_;refine ⟨?_,?_,fun K hK=>?_⟩;rotate_left;(go_simp;try rfl);go_simp;refine hK _ _ ?_;clear hK K)|(refine gWS (by rfl) (fun K hK=>?_);go_simp;refine hK _ _ ?_;clear hK K))
  refine gWE (by rfl) ⟨.agg (kC t),yad _ _ ⟨gb,0,none⟩ _ rfl rfl (HLr.out _ _ Bgb.out),fun K hK=>?_⟩;go_simp;refine hK _ _ ?_;clear hK K;refine gWC (by rfl) (fun K hK=>?_);refine yaf 51 #[.agg (kC t)] (by go_simp) ?_;refine (HF.out _).mono ?_;rintro e9 w4 ⟨rfl,hb⟩;refine ⟨_,rfl,?_⟩;go_simp;refine hK _ _ ?_;clear hK K;have HB:=jX (HB.out.trans (Below.mono hb HB.out.size));have HP:=jX (HP.out.later hb);have Bga:=jX ((hb.block ga (yaa Bga.out)).trans Bga.out);have Bgb:=jX ((hb.block gb (yaa Bgb.out)).trans Bgb.out);clear hb HF;iterate 2 (first|(refine gWE (by rfl) ?_;refine ⟨?_,?_,fun K hK=>?_⟩;rotate_left;(go_simp;try rfl);go_simp;refine hK _ _ ?_;clear hK K)|(refine gWS (by rfl) (fun K hK=>?_);go_simp;refine hK _ _ ?_;clear hK K))
  go_upto_region 3 with (fail)
  refine wp_region_lit ?_;refine yab (v:=.agg (fvcells (.slice pa ev.ps.length pc) ev).toArray) (by rfl) (yad _ _ ⟨ga,0,none⟩ _ rfl rfl (load_fv _ ga 0 _ ev (fun j v hj=>by rw [Nat.zero_add,yac Bga.out];exact (List.getElem?_toArray ..).trans hj))) (fun K hK=>?_);go_simp;refine hK _ _ ?_;clear hK K;obtain⟨w5,gs,e1,e2,bgs,hgs,_,hk5⟩:=al1 w4 (.cells (fvcells (.slice pa ev.ps.length pc) ev).toArray 80);refine yam (v:=.slice (some ⟨w4.heap.size,0,none⟩) 1 1) (w':=w4.alloc (.cells (fvcells (.slice pa ev.ps.length pc) ev).toArray 80)) (by rfl) (yaT 60 1 #[(0,.tmp 20)] #[(0,.agg (fvcells (.slice pa ev.ps.length pc) ev).toArray)] _ rfl (by simp only [List.map_toArray,List.map_cons,List.map_nil];rfl) (build1_ev _ _ _ _ _)) (fun K hK=>?_);rw [← e1,e2];clear e1;go_simp;refine hK _ _ ?_;clear hK K;have HS:=jX (Steps_one (evs_one bgs (HP.out.later hk5.bz)));refine wpList_plain (by rfl) (fun K hK=>?_);refine yaf 38 #[.slice (some ⟨gs,0,none⟩) 1 1] (by go_simp) ?_;refine (HS.out).mono ?_;rintro e9 w6 ⟨gy,oy,cy,da,dn,rfl,hgy,qd,hld,hb⟩;refine ⟨_,rfl,?_⟩;go_simp;refine hK _ _ ?_;clear hK K;have hb:=Below.trans hk5.bz (Below.mono hb hk5.size);have HB:=jX (HB.out.trans (Below.mono hb HB.out.size));have Bgb:=jX ((hb.block gb (yaa Bgb.out)).trans Bgb.out);have HL:=jX hld;clear hb hk5 e2 bgs hgs HS HP Bga hld;refine' yab (v:=_) (by rfl) (?hsa) (fun K hK=>?ksa)
  case hsa=>(go_simp;try rfl)
  go_simp;refine hK _ _ ?_;clear hK K;refine' yab (v:=_) (by rfl) (?hsb) (fun K hK=>?ksb)
  case hsb=>(go_simp;try rfl)
  go_simp;refine hK _ _ ?_;clear hK K;refine' yab (v:=_) (by rfl) (?hsc) (fun K hK=>?ksc)
  case hsc=>(go_simp;try rfl)
  go_simp;refine hK _ _ ?_;clear hK K;clear qd hgy;go_upto_region 4 with (fail)
  refine wp_region_lit ?_;refine' yab (v:=_) (by rfl) (?hta) (fun K hK=>?kta)
  case hta=>(go_simp;try rfl)
  go_simp;refine hK _ _ ?_;clear hK K;refine' yab (v:=_) (by rfl) (?htb) (fun K hK=>?ktb)
  case htb=>(go_simp;try rfl)
  go_simp;refine hK _ _ ?_;clear hK K;refine' yab (v:=_) (by rfl) (?htc) (fun K hK=>?ktc)
  case htc=>(go_simp;try rfl)
  go_simp;refine hK _ _ ?_;clear hK K;refine wpList_plain (by rfl) (fun K hK=>?_);refine yaf 52 #[.int .i64 ((n:Int) % 31),.int .i64 2] (by go_simp) ?_;refine (HI.out _).mono ?_;rintro e9 w7 ⟨rfl,hk⟩;refine ⟨_,rfl,?_⟩;go_simp;refine hK _ _ ?_;clear hK K;have HB:=jX (HB.out.trans (Below.mono hk.bz HB.out.size));have HL:=jX (HL.out.grow hk.bz);have Bgb:=jX (hk.heap Bgb.out (by simp));clear hk HI hm31;refine' yab (v:=_) (by rfl) (?htd) (fun K hK=>?ktd)
  case htd=>(go_simp;try rfl)
  go_simp;refine hK _ _ ?_;clear hK K;refine' yab (v:=_) (by rfl) (?hte) (fun K hK=>?kte)
  case hte=>(go_simp;try rfl)
  go_simp;refine hK _ _ ?_;clear hK K;refine' yab (v:=_) (by rfl) (?htf) (fun K hK=>?ktf)
  case htf=>(go_simp;try rfl)
  go_simp;refine hK _ _ ?_;clear hK K;obtain⟨w8,gq,e1,e2,bgq,hgq,_,hk1⟩:=al1 w7 (.cells #[.bool false,.string ⟨#[]⟩,.bool false,.string ⟨#[]⟩] 28);refine yam (v:=.pointer (some ⟨w7.heap.size,0,none⟩)) (w':=w7.alloc (.cells #[.bool false,.string ⟨#[]⟩,.bool false,.string ⟨#[]⟩] 28)) (by rfl) (ycj _ _ _ rfl) (fun K hK=>?_);rw [← e1,e2];clear e1;go_simp;refine hK _ _ ?_;clear hK K;refine yah (by rfl) _ _ _ rfl gq (rC q) rfl rfl _ _ bgq (by exact q_size) (by rfl) (ycs _) (fun K hK=>?_);obtain⟨w9,e4,b4,k4⟩:=yai (cs:=rC q) bgq;rw [e4];go_simp;refine hK _ _ ?_;clear hK K e4;have hbb:=(show Keep [] w7 w9 from hk1.trans k4 (by simp;omega)).bz
  have Bgq:=jX b4;have HB:=jX (HB.out.trans (Below.mono hbb HB.out.size));have HL:=jX (HL.out.grow hbb);have Bgb:=jX ((hbb.block gb (yaa Bgb.out)).trans Bgb.out);clear hbb k4 b4 hk1 hgq bgq e2;have HN:=jX (evD_norm ev);have hsm:=evD_sm ev;have h8:(evD ev).length≤16:=evD_len ev;have hsm8:∀ i∈evD ev,SmI 8 i:=fun i hi=>(hsm i hi).mono (by decide);have hle:(eroK q (evD ev)).length≤10000:=le10 (evD_few ev).ero (yaq _ _ _) (by decide);have C1:=jX (fun u v (h:Ls u [(v,evD ev)])=>h.erode (k0:=5) (by decide) hsm Hq.out hle);have C2:=jX (fun u v (h:Ls u [(v,evD ev)])=>h.rerode (k0:=5) (by decide) hsm Hq.out hle);have hlaw:=ero_law (k:=8) (by decide) Hq.out H0.out HN.out hsm8 Ht.out
  have hle2:t≤mvK q t:=by
   rw [K.le_def,ybA Ht.out (by decide) Hq.out];exact fun hlt=>mvQ_le t.2.1.nn H0.out hlt
  have HS:=jX (ydp Ht.out (by decide) Hq.out);have C3:=jX (fun u v (h:Ls u [(v,eroK q (evD ev))])=>h.cont (List.mem_singleton.2 rfl) t);have C4:=jX (fun u v x (h:Ls u [(v,evD ev),(x,[(⟨⟨t,false⟩,⟨mvK q t,true⟩⟩:Iv K)])])=>h.cov (List.mem_cons_self ..) (List.mem_cons_of_mem _ (List.mem_cons_self ..)));rw [hlaw] at C3;rw [show kv t = .agg (kC t) from rfl] at C3
  generalize decide (combK 3 [(⟨⟨t,false⟩,⟨mvK q t,true⟩⟩:Iv K)] (evD ev)=[])=r at *;clear hlaw hsm h8 hsm8 hle HN Hq H0 Ht;generalize evD ev=D at *;generalize eroK q D=E at *;have HBd:=jX (iv_b01' t (mvK q t));rw [show kv t = .agg (kC t) from rfl,show kv (mvK q t) = .agg (kC (mvK q t)) from rfl] at HBd
  have HLi:Hid (∀ u:World,∃ u2 g,u.alloc (.cells (iC ⟨⟨t,false⟩,⟨mvK q t,true⟩⟩) 32)=u2∧u.heap.size=g∧Keep [] u u2∧Ls u2 [(.slice (some ⟨g,0,none⟩) 1 1,[(⟨⟨t,false⟩,⟨mvK q t,true⟩⟩:Iv K)])]):=jX (fun u=>by
   have hn:Norm [(⟨⟨t,false⟩,⟨mvK q t,true⟩⟩:Iv K)]:=by
    refine ⟨?_,trivial⟩;rw [Bd.lt_def];by_cases he:t=mvK q t
    ·exact .inr ⟨he,rfl,rfl⟩
    exact .inl (by grind)
   obtain⟨u2,g,e1,e2,_,k,hx⟩:=IvR.single (⟨⟨t,false⟩,⟨mvK q t,true⟩⟩:Iv K) u
   exact ⟨u2,g,e1,e2,k,(Ls.nil _).cons hx hn (by simp)⟩)
  clear hle2;generalize mvK q t=m at *;have hXX:∃ I:Iv K,(⟨⟨t,false⟩,⟨m,true⟩⟩:Iv K)=I:=⟨_,rfl⟩;obtain⟨I,hI⟩:=hXX;rw [hI] at HBd HLi C4;clear hI;generalize kC t=T at *;generalize kC m=M at *;go_upto_region 5 with (fail)
  refine wp_region_lit ?_;refine' yab (v:=_) (by rfl) (?hua) (fun K hK=>?kua)
  case hua=>(go_simp;try rfl)
  go_simp;refine hK _ _ ?_;clear hK K;refine yab (v:=.agg (rC q)) (by rfl) (yad _ _ ⟨gq,0,none⟩ _ rfl rfl (ybu Bgq.out)) (fun K hK=>?_);go_simp;refine hK _ _ ?_;clear hK K;refine wpList_plain (by rfl) (fun K hK=>?_);refine yaf 53 #[.slice da D.length dn,.agg (rC q)] (by go_simp) ?_;refine (C1.out _ _ HL.out).mono ?_;rintro e9 wa ⟨a1,c1,rfl,hb,hl⟩;refine ⟨_,rfl,?_⟩;go_simp;refine hK _ _ ?_;clear hK K;have HB:=jX (HB.out.trans (Below.mono hb HB.out.size));have HL:=jX (HL.out.grow hb);have Bgb:=jX ((hb.block gb (yaa Bgb.out)).trans Bgb.out);have Bgq:=jX ((hb.block gq (yaa Bgq.out)).trans Bgq.out);have HE:=jX hl;clear hb hl C1;go_upto_region 6 with (fail)
  have hgb:=yaa Bgb.out;have hgq:=yaa Bgq.out;refine yao (S:=fun u=>Below wa.heap.size wa u) 8 (by kernel_rfl) (by kernel_rfl) (fun _ _ d _ _ h=>by cases d<;>exact h) ?_;have hS0:=(Keep.drew [] wa).bz;generalize World.drew wa=u at *;refine' jG (v:=_) 0 hS0 (fun w hw=>?hh0) (fun K hK=>?kh0)
  case hh0=>(go_simp;try rfl)
  go_simp;refine hK _ ?_;clear hK K;refine jG (v:=.agg T) 1 hS0 (fun w hw=>yad _ _ ⟨gb,0,none⟩ _ rfl rfl (HLr.out _ _ ((hw.block gb hgb).trans Bgb.out))) (fun K hK=>?_);go_simp;refine hK _ ?_;clear hK K;refine jG (v:=.agg T) 2 hS0 (fun w hw=>yad _ _ ⟨gb,0,none⟩ _ rfl rfl (HLr.out _ _ ((hw.block gb hgb).trans Bgb.out))) (fun K hK=>?_);go_simp;refine hK _ ?_;clear hK K;refine jG (v:=.agg (rC q)) 3 hS0 (fun w hw=>yad _ _ ⟨gq,0,none⟩ _ rfl rfl (ybu ((hw.block gq hgq).trans Bgq.out))) (fun K hK=>?_);go_simp;refine hK _ ?_;clear hK K;refine jP 4 (fun K hK=>?_);refine yaf 54 #[.agg T,.agg (rC q)] (by go_simp) ?_;refine (HS.out _).mono ?_;rintro e u2 ⟨rfl,hb⟩;have hb:=hb.bz;have hS0:=hS0.trans (Below.mono hb hS0.size);refine ⟨_,rfl,?_⟩;go_simp;refine hK _ _ hS0 ?_;clear hK K hb;refine yhq (v:=iv I) 5 (by rfl) (by decide) (by kernel_rfl) (by kernel_rfl) (by rfl) hS0 (fun w hw=>yas 32 #[(0,.tmp 37),(1,.tmp 40)] #[(0,.agg T),(1,.agg M)] (iC I) rfl (by simp only [List.map_toArray,List.map_cons,List.map_nil];rfl) HBd.out) (fun K hK=>?_);go_simp;refine hK _ ?_;clear hK K;refine jP 6 (fun K hK=>?_);refine ybH (.slice (some ⟨u2.heap.size,0,none⟩) 1 1) (u2.alloc (.cells (iC I) 32)) (yaT 22 1 #[(0,.tmp 41)] #[(0,iv I)] _ rfl (by simp only [List.map_toArray,List.map_cons,List.map_nil];rfl) (ybk _ _)) ?_;obtain⟨u3,gl,e3,e4,k3,hl3⟩:=HLi.out u2;rw [e3,e4];have hS0:=hS0.trans (Below.mono k3.bz hS0.size);have Hl3:=jX hl3;clear e3 e4 k3 hl3;go_simp;refine hK _ _ hS0 ?_;clear hK K;refine jP 7 (fun K hK=>?_);refine yaf 50 #[.slice da D.length dn,.slice (some ⟨gl,0,none⟩) 1 1] (by go_simp) ?_;refine (C4.out _ _ _ ((HL.out.grow hS0).one Hl3.out)).mono ?_;rintro e u4 ⟨rfl,hb⟩;have hS0:=hS0.trans (Below.mono hb hS0.size);refine ⟨_,rfl,?_⟩;go_simp;refine hK _ _ hS0 ?_;clear hK K;refine ⟨by kernel_rfl,?_⟩;simp only [List.drop_succ_cons,List.drop_zero];have HB:=jX (HB.out.trans (Below.mono hS0 HB.out.size));have HL:=jX (HL.out.grow hS0);have HE:=jX (HE.out.grow hS0);have Bgb:=jX ((hS0.block gb hgb).trans Bgb.out);have Bgq:=jX ((hS0.block gq hgq).trans Bgq.out);clear hS0 hb Hl3 HLi HBd HS C4 hgb hgq;go_upto_region 7 with (fail)
  refine wp_region_lit ?_;refine' yab (v:=_) (by rfl) (?hva) (fun K hK=>?kva)
  case hva=>(go_simp;try rfl)
  go_simp;refine hK _ _ ?_;clear hK K;refine' yab (v:=_) (by rfl) (?hvb) (fun K hK=>?kvb)
  case hvb=>(go_simp;try rfl)
  go_simp;refine hK _ _ ?_;clear hK K;refine yab (v:=.agg (rC q)) (by rfl) (yad _ _ ⟨gq,0,none⟩ _ rfl rfl (ybu Bgq.out)) (fun K hK=>?_);go_simp;refine hK _ _ ?_;clear hK K;refine wpList_plain (by rfl) (fun K hK=>?_);refine yaf 55 #[.slice da D.length dn,.agg (rC q)] (by go_simp) ?_;refine (C2.out _ _ HL.out).mono ?_;rintro e9 wb ⟨a2,c2,rfl,hb,hl,_⟩;refine ⟨_,rfl,?_⟩;go_simp;refine hK _ _ ?_;clear hK K;have HB:=jX (HB.out.trans (Below.mono hb HB.out.size));have HE:=jX (HE.out.grow hb);have Bgb:=jX ((hb.block gb (yaa Bgb.out)).trans Bgb.out);have HE2:=jX hl;clear hb hl C2 HL Bgq;refine wpList_plain (by rfl) (fun K hK=>?_);refine yaf 20 #[.slice a1 E.length c1,.slice a2 E.length c2] (by go_simp) ?_;refine (HE.out.peq_t HE2.out).mono ?_;rintro e9 wc ⟨rfl,hb⟩;refine ⟨_,rfl,?_⟩;go_simp;refine hK _ _ ?_;clear hK K;have HB:=jX (HB.out.trans (Below.mono hb HB.out.size));have HE:=jX (HE.out.grow hb);have Bgb:=jX ((hb.block gb (yaa Bgb.out)).trans Bgb.out);clear hb HE2;iterate 2 (first|(refine gWE (by rfl) ?_;refine ⟨?_,?_,fun K hK=>?_⟩;rotate_left;(go_simp;try rfl);go_simp;refine hK _ _ ?_;clear hK K)|(refine gWS (by rfl) (fun K hK=>?_);go_simp;refine hK _ _ ?_;clear hK K))
  refine gWE (by rfl) ⟨.agg T,yad _ _ ⟨gb,0,none⟩ _ rfl rfl (HLr.out _ _ Bgb.out),fun K hK=>?_⟩;go_simp;refine hK _ _ ?_;clear hK K;refine gWC (by rfl) (fun K hK=>?_);refine yaf 56 #[.slice a1 E.length c1,.agg T] (by go_simp) ?_;refine (C3.out _ _ HE.out).mono ?_;rintro e9 wd ⟨rfl,hb⟩;refine ⟨_,rfl,?_⟩;go_simp;refine hK _ _ ?_;clear hK K;have HB:=jX (HB.out.trans (Below.mono hb HB.out.size));clear hb HE Bgb HLr C3;iterate 3 (first|(refine gWE (by rfl) ?_;refine ⟨?_,?_,fun K hK=>?_⟩;rotate_left;(go_simp;try rfl);go_simp;refine hK _ _ ?_;clear hK K)|(refine gWS (by rfl) (fun K hK=>?_);go_simp;refine hK _ _ ?_;clear hK K))
  go_wp2_with fail;go_ret
  exact ⟨rfl,HB.out⟩
end
section
open Classical
open Go.ChangeShapes Go.WideShapes Go.ChangeAt
def two (x y:RawF):Array Value:=#[.bool x.a1,.string x.a2,.bool x.a3,.string x.a4,.bool y.a1,.string y.a2,.bool y.a3,.string y.a4]
end
section
open Classical
theorem OE.ob {α:Type} {enc:α→List Value} {e:TypeId} {k:Nat} {w0 w:World} {v:Value} {l:List α} (h:OE enc e k w0 w v l):OB enc e k w0 w v l:=⟨h.row,h.base,h.keep.bz⟩
end
section
open Classical
def StsW (w0 w:World) (svs:List StV):Prop:=∀ x∈svs,Ls w [(x.v,x.s.d)]∧(TyI w x.v∨Ls w0 [(x.v,x.s.d)])
theorem StsW.grow {w0 w w':World} {vs:List StV} (h:StsW w0 w vs) (hb:Below w.heap.size w w'):StsW w0 w' vs:=fun x hx=>⟨(h x hx).1.grow hb,(h x hx).2.imp (fun t=>t.grow hb) id⟩
theorem StsW.put {w0 w w':World} {A B:List StV} {s t:StV} {g:Nat} (h:StsW w0 w (A++s :: B)) (ht:Ls w [(t.v,t.s.d)]∧TyI w t.v) (hg:∃ cur,w.heap[g]? = some (.cells cur 65)) (h0:w0.heap.size≤g) (hw:Below w0.heap.size w0 w) (hk:Keep [g] w w'):StsW w0 w' (A++t :: B):=by
 have hF:∀ b∈[g],∃ cur,w.heap[b]? = some (.cells cur 65):=fun b hb=>by
  rw [List.mem_singleton] at hb;subst hb;exact hg
 have hw':Below w0.heap.size w0 w':=hw.trans (hk.below (by simp;exact h0) hw.size)
 have old:∀ x∈A++s :: B,Ls w' [(x.v,x.s.d)]∧(TyI w' x.v∨Ls w0 [(x.v,x.s.d)]):=fun x hx=>by
  rcases (h x hx).2 with k|k
  ·have:=(h x hx).1.tyE s_ne k hF hk
   exact ⟨this.1,.inl this.2⟩
  exact ⟨k.grow hw',.inr k⟩
 intro x hx;rcases List.mem_append.1 hx with hx|hx
 ·exact old x (List.mem_append_left _ hx)
 rcases List.mem_cons.1 hx with rfl|hx
 ·have:=ht.1.tyE s_ne ht.2 hF hk
  exact ⟨this.1,.inl this.2⟩
 exact old x (List.mem_append_right _ (List.mem_cons_of_mem _ hx))
theorem OBS.mid {w0 w:World} {po:Option Addr} {n c:Nat} {A B:List StV} {s:StV} (h:OBS w0 w (.slice po n c) (A++s :: B)):∃ g,po=some ⟨g,0,none⟩∧g<w.heap.size∧StAt w g (A.length*13) s∧∃ cur,w.heap[g]? = some (.cells cur 65):=by
 have hn:n=(A++s :: B).length:=by
  obtain⟨po,pc,e⟩:=h.form;injection e
 subst hn;obtain⟨g,o,e,hg,hat⟩:=RowE.elem StV.len h.read A.length (by simp);have hx:(A++s :: B)[A.length]'(by simp)=s:=by simp
 rw [hx] at hat;subst e;rcases h.row.2 with ⟨hv,_⟩|⟨b,cap,cur,hv,_,hb,_⟩
 ·cases hv
 injection hv with e1;injection e1 with e1;injection e1 with e2 e3;subst e2 e3;exact ⟨g,rfl,hg,fun j v hj=>by have:=hat j v hj;rwa [Nat.zero_add] at this,cur,hb⟩
end
end Go.Proofs.YtpgffjjpiafhpaaGreatDoor
