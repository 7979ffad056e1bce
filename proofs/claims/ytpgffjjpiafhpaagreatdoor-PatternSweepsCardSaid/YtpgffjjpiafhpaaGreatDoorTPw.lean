/- Parts of a proof: Ss@w Pn@w Uh@w Vc@w Va@w Vd@w Ia@w Iz@w Vh@w Vb@w If@w Fa@w Fd@w Ea@w Hq@w Ec@w Ed@w Ef@w Hw@w Eh@w Ei@w. -/
import Derived.Deep.Slices
import Derived.Lib.SmallJoins
import Derived.Test.YtpgffjjpiafhpaaGreatDoorP14
import Derived.Test.YtpgffjjpiafhpaaGreatDoorP08
import Derived.Test.YtpgffjjpiafhpaaGreatDoorP18
import Derived.Test.YtpgffjjpiafhpaaGreatDoorP15
import Derived.Test.YtpgffjjpiafhpaaGreatDoorP23
import Derived.Test.YtpgffjjpiafhpaaGreatDoorP19
import Derived.Test.YtpgffjjpiafhpaaGreatDoorP20
import Derived.Test.YtpgffjjpiafhpaaGreatDoorP32
set_option linter.unusedVariables false
set_option linter.unusedSimpArgs false
set_option linter.unusedSectionVars false
set_option maxRecDepth 100000
set_option maxHeartbeats 8000000
namespace Go.Proofs.YtpgffjjpiafhpaaGreatDoor
open Go.RowKit Tryz
section
variable {α:Type} (enc:α→List Value)
variable {enc}
end
theorem kw_k {w:World} {g:Nat} {x:K} {t:TypeId} (h:w.heap[g]? = some (.cells (kC x) t)):∀ m:KW w,(loadVar 30 ⟨g,0,none⟩).run prog (Wk w m) = .ok (kv x) (Wk w m) :=
 fun m=>yaL _ _ _ _ (kAt_box (m.k.heap h (by simp)))
theorem normK_has (l:List (Iv K)) (x:Bd K):hasL (normK l) x=hasL l x:=by rw [combK_has];simp [decV,yeZ]
theorem hasL_ne {l:List (Iv K)} (h:Norm l):l=[]↔∀ x,hasL l x=false:=by
 constructor
 ·rintro rfl x;rfl
 exact fun hx=>yfX h (m:=[]) trivial (fun x=>by rw [hx];rfl)
section
open Classical
theorem overlaps_c (a b:List (Iv K)) (ha:∀ i∈a,i.f<i.l) (hb:∀ i∈b,i.f<i.l) (w:World) (sv tv:Value) (hr:IvR w sv a) (hs:IvR w tv b) (h9:a.length≤10000) (h8:b.length≤10000) :
  Calls prog 62 #[sv,tv] w fun e w'=>e = .returned (.bool (decide (combK 2 a b≠[])))∧Keep [] w w':=by
 have H:=jX (Intersect_p a b ha hb w sv tv hr hs h9 h8);obtain⟨ao,ac,rfl,_⟩:=hr.form;obtain⟨bo,bc,rfl,_⟩:=hs.form;clear hr hs ha hb;go_enter func62,ntmps62
 go_wp2_with fail;refine H.out.mono ?_;rintro e w1 ⟨v,rfl,hv,hk⟩;dsimp only;have HK:=jX hk;obtain⟨vo,vc,rfl,_⟩:=hv.form;obtain⟨r,hr⟩:∃ r,decide (combK 2 a b≠[])=r:=⟨_,rfl⟩
 have hd:decide (0<(combK 2 a b).length)=r:=by
  rw [← hr,Bool.eq_iff_iff,decide_eq_true_iff,decide_eq_true_iff,ne_eq,← List.length_eq_zero_iff];omega
 have HRr:=jX hr;clear hv hk H hr;generalize (combK 2 a b).length=n at *;go_wp2_with fail;go_ret
 exact ⟨by rw [HRr.out];rfl,HK.out⟩
end
section
open Classical
theorem cmpB_le (a b:Bd K):cmpB a b≤0↔a≤b:=by
 rcases ycS a b with ⟨h,g⟩|⟨h,g⟩|⟨h,g⟩
 ·rw [h];exact ⟨fun h2=>absurd h2 (by decide),fun h2=>by grind⟩
 ·rw [h];exact ⟨fun _=>by grind,fun _=>by decide⟩
 rw [h];exact ⟨fun _=>by grind,fun _=>by decide⟩
theorem bd_built (x:K) (o:Bool):prog.built 114 [(0,kv x),(1,.bool o)]=some (bC ⟨x,o⟩):=ydo _ _ _ _ _ _ _ _
theorem contains1_c (i:Iv K) (t:K) (w:World) (g:Nat) (hb:w.heap[g]? = some (.cells (kC t) 30)) :
  Calls prog 115 #[iv i,.pointer (some ⟨g,0,none⟩)] w fun e w'=>e = .returned (.bool (decide (i.f≤⟨t,false⟩∧(⟨t,true⟩:Bd K)≤i.l)))∧Keep [] w w':=by
 have HF:=jX (fun w=>yeN i w);have HL:=jX (fun w=>ygD i w);have HC1:=jX (fun w=>yfC i.f ⟨t,false⟩ w);have HC2:=jX (fun w=>yfC ⟨t,true⟩ i.l w);have B1:=jX (bd_built t false);have B2:=jX (bd_built t true);have hd1:decide (cmpB i.f ⟨t,false⟩≤0)=decide (i.f≤⟨t,false⟩):=by rw [Bool.eq_iff_iff,decide_eq_true_iff,decide_eq_true_iff];exact cmpB_le _ _
 have hd2:decide (cmpB ⟨t,true⟩ i.l≤0)=decide ((⟨t,true⟩:Bd K)≤i.l):=by rw [Bool.eq_iff_iff,decide_eq_true_iff,decide_eq_true_iff];exact cmpB_le _ _
 have hres:decide (i.f≤⟨t,false⟩∧(⟨t,true⟩:Bd K)≤i.l)=(decide (cmpB i.f ⟨t,false⟩≤0)&&decide (cmpB ⟨t,true⟩ i.l≤0)):=by rw [hd1,hd2,Bool.decide_and]
 rw [hres];clear hd1 hd2 hres;generalize cmpB i.f ⟨t,false⟩=n1 at *;generalize cmpB ⟨t,true⟩ i.l=n2 at *;have ho:iv i = .agg (iC i):=rfl;have hk:kv t = .agg (kC t):=rfl;have e1:bv i.f = .agg (bC i.f):=rfl;have e2:bv i.l = .agg (bC i.l):=rfl;have e3:bv ⟨t,false⟩ = .agg (bC ⟨t,false⟩):=rfl;have e4:bv ⟨t,true⟩ = .agg (bC ⟨t,true⟩):=rfl;rw [ho];rw [ho,e1] at HF;rw [ho,e2] at HL;rw [e1,e3] at HC1;rw [e2,e4] at HC2;rw [hk] at B1 B2;clear ho hk e1 e2 e3 e4;by_cases h1:n1≤0
 ·have hd:decide (n1≤0)=true:=decide_eq_true h1
  rw [hd,Bool.true_and];go_enter func115,ntmps115
  go_upto_region 1 with (fail)
  obtain⟨W,ga,hW,ega,Bga,hga,hgW,HkW⟩:=al1h w (.cells (iC i) 32);rw [← hW];try rw [ega]
  clear hW ega;have HLi:=jX ((yap Bga.out).ld (yaa Bga.out));have HLt:=jX (kw_k (HkW.out.heap hb (by simp)));have hiv:iv i = .agg (iC i):=rfl;have hkv:kv t = .agg (kC t):=rfl;rw [hiv] at HLi;rw [hkv] at HLt;clear hiv hkv hb Bga;have Q1:Hid (∀ m:KW W,Calls prog 77 #[.agg (iC i)] (Wk W m) fun e w'=>e = .returned (.agg (bC i.f))∧∃ m,w'=Wk W m):=fun m=>qk m (HF.out _);have Q2:Hid (∀ m:KW W,Calls prog 78 #[.agg (iC i)] (Wk W m) fun e w'=>e = .returned (.agg (bC i.l))∧∃ m,w'=Wk W m):=fun m=>qk m (HL.out _);have Q3:Hid (∀ m:KW W,Calls prog 76 #[.agg (bC i.f),.agg (bC ⟨t,false⟩)] (Wk W m) fun e w'=>e = .returned (.int .i64 n1)∧∃ m,w'=Wk W m):=fun m=>qk m (HC1.out _);have Q4:Hid (∀ m:KW W,Calls prog 76 #[.agg (bC ⟨t,true⟩),.agg (bC i.l)] (Wk W m) fun e w'=>e = .returned (.int .i64 n2)∧∃ m,w'=Wk W m):=fun m=>qk m (HC2.out _);clear HF HL HC1 HC2;generalize iC i=I at *;generalize kC t=T at *;generalize bC i.f=F at *;generalize bC i.l=L at *;generalize bC ⟨t,false⟩=T0 at *;generalize bC ⟨t,true⟩=T1 at *;refine yae (by kernel_rfl) (by kernel_rfl) ?_
  repeat (first
   | go_big_quiet_skip
   | (go_big_quiet_want;first
    | (refine yan _ _ _ (.agg I) rfl rfl (by rintro _ ⟨m,rfl⟩;exact HLi.out m) ?_;go_simp;go_big_quiet_on)|(refine yan _ _ _ (.agg T) rfl rfl (by rintro _ ⟨m,rfl⟩;exact HLt.out m) ?_;go_simp;go_big_quiet_on)|(refine ycA _ _ #[(0,.agg T),(1,.bool false)] (T0) rfl (by simp only [List.map_toArray,List.map_cons,List.map_nil];rfl) B1.out ?_;go_simp;go_big_quiet_on)|(refine ycA _ _ #[(0,.agg T),(1,.bool true)] (T1) rfl (by simp only [List.map_toArray,List.map_cons,List.map_nil];rfl) B2.out ?_;go_simp;go_big_quiet_on)
    | (go_big_quiet_op;first|go_big_quiet_on|go_big_quiet_call (first
     | (go_at_call 77;with_reducible exact (Q1).out _)|(go_at_call 78;with_reducible exact (Q2).out _)|(go_at_call 76;with_reducible exact (Q3).out _)|(go_at_call 76;with_reducible exact (Q4).out _)))))
  refine wpQuiet_nil ?_;rintro w2 ⟨⟨_,hk_w2⟩,rfl⟩;go_wp2_with fail;go_ret
  exact ⟨rfl,HkW.out.tz hk_w2⟩
 have hd:decide (n1≤0)=false:=decide_eq_false h1;rw [hd,Bool.false_and];go_enter func115,ntmps115
 go_upto_region 1 with (fail)
 obtain⟨W,ga,hW,ega,Bga,hga,hgW,HkW⟩:=al1h w (.cells (iC i) 32);rw [← hW];try rw [ega]
 clear hW ega;have HLi:=jX ((yap Bga.out).ld (yaa Bga.out));have HLt:=jX (kw_k (HkW.out.heap hb (by simp)));have hiv:iv i = .agg (iC i):=rfl;have hkv:kv t = .agg (kC t):=rfl;rw [hiv] at HLi;rw [hkv] at HLt;clear hiv hkv hb Bga;have Q1:Hid (∀ m:KW W,Calls prog 77 #[.agg (iC i)] (Wk W m) fun e w'=>e = .returned (.agg (bC i.f))∧∃ m,w'=Wk W m):=fun m=>qk m (HF.out _);have Q2:Hid (∀ m:KW W,Calls prog 78 #[.agg (iC i)] (Wk W m) fun e w'=>e = .returned (.agg (bC i.l))∧∃ m,w'=Wk W m):=fun m=>qk m (HL.out _);have Q3:Hid (∀ m:KW W,Calls prog 76 #[.agg (bC i.f),.agg (bC ⟨t,false⟩)] (Wk W m) fun e w'=>e = .returned (.int .i64 n1)∧∃ m,w'=Wk W m):=fun m=>qk m (HC1.out _);have Q4:Hid (∀ m:KW W,Calls prog 76 #[.agg (bC ⟨t,true⟩),.agg (bC i.l)] (Wk W m) fun e w'=>e = .returned (.int .i64 n2)∧∃ m,w'=Wk W m):=fun m=>qk m (HC2.out _);clear HF HL HC1 HC2;generalize iC i=I at *;generalize kC t=T at *;generalize bC i.f=F at *;generalize bC i.l=L at *;generalize bC ⟨t,false⟩=T0 at *;generalize bC ⟨t,true⟩=T1 at *;refine yae (by kernel_rfl) (by kernel_rfl) ?_
 repeat (first
  | go_big_quiet_skip
  | (go_big_quiet_want;first
   | (refine yan _ _ _ (.agg I) rfl rfl (by rintro _ ⟨m,rfl⟩;exact HLi.out m) ?_;go_simp;go_big_quiet_on)|(refine yan _ _ _ (.agg T) rfl rfl (by rintro _ ⟨m,rfl⟩;exact HLt.out m) ?_;go_simp;go_big_quiet_on)|(refine ycA _ _ #[(0,.agg T),(1,.bool false)] (T0) rfl (by simp only [List.map_toArray,List.map_cons,List.map_nil];rfl) B1.out ?_;go_simp;go_big_quiet_on)|(refine ycA _ _ #[(0,.agg T),(1,.bool true)] (T1) rfl (by simp only [List.map_toArray,List.map_cons,List.map_nil];rfl) B2.out ?_;go_simp;go_big_quiet_on)
   | (go_big_quiet_op;first|go_big_quiet_on|go_big_quiet_call (first
    | (go_at_call 77;with_reducible exact (Q1).out _)|(go_at_call 78;with_reducible exact (Q2).out _)|(go_at_call 76;with_reducible exact (Q3).out _)|(go_at_call 76;with_reducible exact (Q4).out _)))))
 refine wpQuiet_nil ?_;rintro w2 ⟨⟨_,hk_w2⟩,rfl⟩;go_wp2_with fail;go_ret
 exact ⟨rfl,HkW.out.tz hk_w2⟩
theorem any_take {α:Type} (p:α→Bool) (l:List α) (k:Nat) (h:k<l.length) (hno:(l.take k).any p=false):(l.take (k+1)).any p=p l[k]:=by
 rw [List.take_succ_eq_append_getElem h,List.any_append,hno];simp
theorem any_early {α:Type} (p:α→Bool) (l:List α) (k:Nat) (h:(l.take k).any p=true):l.any p=true:=by
 rw [List.any_eq_true] at h ⊢;obtain⟨x,hx,h⟩:=h;exact ⟨x,List.mem_of_mem_take hx,h⟩
theorem index_c (l:List (Iv K)) (t:K) (gt:Nat) (w:World) (hb:w.heap[gt]? = some (.cells (kC t) 30)) (sv:Value) (hr:IvR w sv l) (h9:l.length≤1000000000) :
  Calls prog 161 #[sv,.func (.func 115) #[] #[.pointer (some ⟨gt,0,none⟩)]] w fun e w'=>∃ n:Int,e = .returned (.int .i64 n)∧decide (0≤n)=holds l t∧Keep [] w w':=by
 have HR:=jX hr;have Hb:=jX hb;have HC:=jX (fun i w hb=>contains1_c i t w gt hb);obtain⟨ao,ac,rfl,_⟩:=hr.form;clear hr hb;unfold holds;generalize hP:(fun i:Iv K=>decide (i.f≤⟨t,false⟩∧(⟨t,true⟩:Bd K)≤i.l))=P at *;have HP:=jX hP;clear hP;go_enter func161,ntmps161
 go_wp2_with fail;go_loopw [5,8] (fun _ c wr=>∃ k:Nat,k≤l.length∧c = .int .i64 (k:Int)∧(l.take k).any P=false∧Keep [] w wr) (fun _ c _=>l.length-(intOf c).toNat)
 case atStart=>exact ⟨0,Nat.zero_le _,rfl,rfl,Keep.refl _ _⟩
 case round =>
  obtain⟨k,hk,rfl,hno,hkeep⟩:=hrel;have Hno:=jX hno;have HKr:=jX hkeep;clear hno hkeep;by_cases hlt:k<l.length
  ·obtain⟨g,o,rfl,hg,hat⟩:=IvR.elem (HR.out.later HKr.out) k hlt
   have Hnx:=jX (any_take P l k hlt Hno.out);obtain⟨i,hi⟩:∃ i,l[k]=i:=⟨_,rfl⟩;rw [hi] at Hnx hat;have H1:=jX (HC.out i wr (HKr.out.heap Hb.out (by simp)));obtain⟨p,hp⟩:∃ p,o+k*20=p:=⟨_,rfl⟩;rw [hp] at hat;have HL:=jX (yaE wr g p i hat);have hPi:decide (i.f≤⟨t,false⟩∧(⟨t,true⟩:Bd K)≤i.l)=P i:=by rw [← HP.out]
   have HPi:=jX hPi;rw [hPi] at H1;clear hi hat hPi;have hiv:iv i = .agg (iC i):=rfl;rw [hiv] at H1 HL;clear hiv;generalize P i=r at *;generalize iC i=I at *;go_upto_region 4 with (fail)
   refine wp_region_lit ?_;refine' yab (v:=_) (by rfl) (?ha) (fun K hK=>?ka)
   case ha=>(go_simp;try rfl)
   go_simp;refine hK _ _ ?_;clear hK K;refine' yab (v:=_) (by rfl) (?hb) (fun K hK=>?kb)
   case hb=>(go_simp;try rfl)
   go_simp;refine hK _ _ ?_;clear hK K;refine' yab (v:=_) (by rfl) (?hc) (fun K hK=>?kc)
   case hc=>(go_simp;try rfl)
   go_simp;refine hK _ _ ?_;clear hK K;refine' yab (v:=_) (by rfl) (?hd) (fun K hK=>?kd)
   case hd=>(go_simp;try rfl)
   go_simp;refine hK _ _ ?_;clear hK K;refine yab (v:=.agg I) (by rfl) (yad _ _ ⟨g,p,none⟩ _ rfl rfl HL.out) (fun K hK=>?_);go_simp;refine hK _ _ ?_;clear hK K;refine wpList_plain (by rfl) (fun K hK=>?_);refine yaf 115 #[.agg I,.pointer (some ⟨gt,0,none⟩)] (by go_simp) ?_;refine H1.out.mono ?_;rintro e w3 ⟨rfl,hk3⟩;refine ⟨_,rfl,?_⟩;go_simp;refine hK _ _ ?_;clear hK K;have HKx:=jX (HKr.out.tz hk3);clear hk3 H1 HL HPi;cases r with
   | true =>
    go_wp2_with fail;go_ret
    exact ⟨(k:Int),rfl,by rw [any_early P l _ Hnx.out];exact decide_eq_true (by omega),HKx.out⟩
   | false =>
    go_wp2_with fail;go_roundw
    case rel=>exact ⟨k+1,by omega,congrArg (Value.int .i64) (by omega),Hnx.out,HKx.out⟩
    case measure=>simp [intOf];omega
  have hkl:l.take k=l:=List.take_of_length_le (by omega);have HF:Hid (l.any P=false):=by rw [← hkl];exact Hno.out
  clear hkl Hno;go_wp2_with fail;go_ret
  exact ⟨-1,rfl,by rw [HF.out];rfl,HKr.out⟩
theorem contF_c (l:List (Iv K)) (t:K) (gt:Nat) (w:World) (hb:w.heap[gt]? = some (.cells (kC t) 30)) (sv:Value) (hr:IvR w sv l) (h9:l.length≤1000000000) :
  Calls prog 114 #[sv,.func (.func 115) #[] #[.pointer (some ⟨gt,0,none⟩)]] w fun e w'=>e = .returned (.bool (holds l t))∧Keep [] w w':=by
 have H:=jX (index_c l t gt w hb sv hr h9);obtain⟨ao,ac,rfl,_⟩:=hr.form;clear hr hb;go_enter func114,ntmps114
 go_wp2_with fail;refine H.out.mono ?_;rintro e w2 ⟨n,rfl,hn,hk⟩;dsimp only;have HK:=jX hk;clear hk;go_wp2_with fail;go_ret
 exact ⟨rfl,HK.out⟩
theorem contains_c (l:List (Iv K)) (t:K) (w:World) (sv:Value) (hr:IvR w sv l) (h9:l.length≤1000000000) :
  Calls prog 56 #[sv,kv t] w fun e w'=>e = .returned (.bool (holds l t))∧Keep [] w w':=by
 have HR:=jX hr;have HC:=jX (fun w gt hb sv hr=>contF_c l t gt w hb sv hr h9);obtain⟨ao,ac,rfl,_⟩:=hr.form;clear hr h9;show Calls prog 56 #[_,.agg (kC t)] w _
 go_enter func56,ntmps56
 go_upto_region 1 with (fail)
 obtain⟨W,ga,hW,ega,Bga,hga,hgW,HkW⟩:=al1h w (.cells (kC t) 30);rw [← hW];try rw [ega]
 clear hW ega;have H:=jX (HC.out W ga Bga.out _ (HR.out.later HkW.out));clear HC;go_wp2_with fail;refine H.out.mono ?_;rintro e w2 ⟨rfl,hk⟩;dsimp only;have HK:=jX (HkW.out.tz hk);clear hk;go_wp2_with fail;go_ret
 exact ⟨rfl,HK.out⟩
end
section
open Go.ChangeShapes Go.WideShapes Go.ChangeAt
theorem cells_bool:prog.cellsOf 4=1:=by kernel_rfl
section
variable {H:Type} {enc:TypeId × Value→H} {w:World} {base:Nat} {held:Bool} {fuel:Nat}
end
end
section
open Go.ChangeShapes Go.WideShapes Go.ChangeAt
theorem agg_of_cells {v:Value} {l:List Value} (h:v.cells.toList=l) (hl:l.length≠1):v = .agg l.toArray:=by
 cases v with
 | agg c=>subst h;simp [Value.cells]
 | _=>subst h;exact absurd rfl hl
end
section
open Go.ChangeShapes Go.WideShapes Go.ChangeAt
theorem cells_str:prog.cellsOf 9=1:=by kernel_rfl
theorem cells_zint:prog.cellsOf 26=2:=by kernel_rfl
theorem cells_zrat:prog.cellsOf 28=4:=by kernel_rfl
theorem cells_zreal:prog.cellsOf 30=9:=by kernel_rfl
section
variable {H:Type} {enc:TypeId × Value→H} {w:World} {base:Nat} {held:Bool} {fuel:Nat}
def Wt (t:TypeId) (d:DataW H) (B:Nat):Prop:=∀ n∈d.weights prog t,n≤B
theorem wt_head {t:TypeId} {ts:List TypeId} {d:DataW H} {r:List (DataW H)} (h:(DataW.weightsEach prog (t :: ts) (d :: r)).all (· ≤ reachBytes)=true):Wt t d reachBytes:=fun n hn=>by
 have:=List.all_eq_true.1 h n (by rw [DataW.weightsEach];exact List.mem_append_left _ hn)
 simpa using this
theorem wt_tail {t:TypeId} {ts:List TypeId} {d:DataW H} {r:List (DataW H)} (h:(DataW.weightsEach prog (t :: ts) (d :: r)).all (· ≤ reachBytes)=true):(DataW.weightsEach prog ts r).all (· ≤ reachBytes)=true:=by
 rw [DataW.weightsEach,List.all_append,Bool.and_eq_true] at h;exact h.2
theorem zint_w (a b:DataW H):(DataW.agg [a,b]:DataW H).weights prog 26=a.weights prog 4++b.weights prog 9:=by
 simp [DataW.weights,DataW.weightsEach,underlying26]
theorem zrat_w (a b:DataW H):(DataW.agg [a,b]:DataW H).weights prog 28=a.weights prog 26++b.weights prog 26:=by
 simp [DataW.weights,DataW.weightsEach,underlying28]
theorem zreal_w (a b c:DataW H):(DataW.agg [a,b,c]:DataW H).weights prog 30=a.weights prog 28++(b.weights prog 28++c.weights prog 4):=by
 simp [DataW.weights,DataW.weightsEach,underlying30]
theorem zint_trod {cs:List Value} {x:DataW H × List MemPlace} (h:DataW.trod enc prog w base (fun _=>true) held fuel 26 cs=some x):∃ (b:Bool) (s:ByteArray),cs=[.bool b,.string s]∧∀ B,Wt 26 x.1 B→s.size≤B:=by
 obtain⟨xs,n,_,rfl,hl,hlen,hf⟩:=DataW.trod_struct underlying26 h;rw [cells_zint] at hl
 match cs,hl with
 | [c0,c1],_ =>
  match xs,hlen with
  | [x0,x1],_ =>
   have h0:DataW.trod enc prog w base (fun _=>true) held n 4 (([c0,c1].drop 0).take (prog.cellsOf 4))=some x0:=hf 0 _ rfl;have h1:DataW.trod enc prog w base (fun _=>true) held n 9 (([c0,c1].drop 1).take (prog.cellsOf 9))=some x1:=hf 1 _ rfl;rw [cells_bool] at h0;rw [cells_str] at h1;obtain⟨b,e0,_⟩:=DataW.trod_bool underlying4 h0;obtain⟨s,e1,rfl,_⟩:=DataW.trod_string underlying9 h1;simp at e0 e1;refine ⟨b,s,by rw [e0,e1],fun B hB=>hB _ ?_⟩;simp only [List.map_cons,List.map_nil];rw [zint_w];exact List.mem_append_right _ (by simp [DataW.weights])
theorem zrat_trod {cs:List Value} {x:DataW H × List MemPlace} (h:DataW.trod enc prog w base (fun _=>true) held fuel 28 cs=some x):∃ (b:Bool) (s:ByteArray) (d:Bool) (t:ByteArray),cs=[.bool b,.string s,.bool d,.string t]∧∀ B,Wt 28 x.1 B→s.size≤B∧t.size≤B:=by
 obtain⟨xs,n,_,rfl,hl,hlen,hf⟩:=DataW.trod_struct underlying28 h;rw [cells_zrat] at hl
 match cs,hl with
 | [c0,c1,c2,c3],_ =>
  match xs,hlen with
  | [x0,x1],_ =>
   have h0:DataW.trod enc prog w base (fun _=>true) held n 26 (([c0,c1,c2,c3].drop 0).take (prog.cellsOf 26))=some x0:=hf 0 _ rfl;have h1:DataW.trod enc prog w base (fun _=>true) held n 26 (([c0,c1,c2,c3].drop 2).take (prog.cellsOf 26))=some x1:=hf 1 _ rfl;rw [cells_zint] at h0 h1;obtain⟨b,s,e0,g0⟩:=zint_trod h0;obtain⟨d,t,e1,g1⟩:=zint_trod h1;simp at e0 e1;refine ⟨b,s,d,t,by rw [e0.1,e0.2,e1.1,e1.2],fun B hB=>?_⟩;simp only [List.map_cons,List.map_nil,Wt] at hB;rw [zrat_w] at hB;exact ⟨g0 B fun n hn=>hB n (List.mem_append_left _ hn),g1 B fun n hn=>hB n (List.mem_append_right _ hn)⟩
theorem zreal_trod {cs:List Value} {x:DataW H × List MemPlace} (h:DataW.trod enc prog w base (fun _=>true) held fuel 30 cs=some x):∃ r:RawR,cs=r.cells∧∀ B,Wt 30 x.1 B→r.sz B:=by
 obtain⟨xs,n,_,rfl,hl,hlen,hf⟩:=DataW.trod_struct underlying30 h;rw [cells_zreal] at hl
 match cs,hl with
 | [c0,c1,c2,c3,c4,c5,c6,c7,c8],_ =>
  match xs,hlen with
  | [x0,x1,x2],_ =>
   have h0:DataW.trod enc prog w base (fun _=>true) held n 28 (([c0,c1,c2,c3,c4,c5,c6,c7,c8].drop 0).take (prog.cellsOf 28))=some x0:=hf 0 _ rfl;have h1:DataW.trod enc prog w base (fun _=>true) held n 28 (([c0,c1,c2,c3,c4,c5,c6,c7,c8].drop 4).take (prog.cellsOf 28))=some x1:=hf 1 _ rfl;have h2:DataW.trod enc prog w base (fun _=>true) held n 4 (([c0,c1,c2,c3,c4,c5,c6,c7,c8].drop 8).take (prog.cellsOf 4))=some x2:=hf 2 _ rfl;rw [cells_zrat] at h0 h1;rw [cells_bool] at h2;obtain⟨b,s,d,t,e0,g0⟩:=zrat_trod h0;obtain⟨b',s',d',t',e1,g1⟩:=zrat_trod h1;obtain⟨g,e2,_⟩:=DataW.trod_bool underlying4 h2;simp at e0 e1 e2;refine ⟨⟨b,s,d,t,b',s',d',t',g⟩,by simp only [RawR.cells];rw [e0.1,e0.2.1,e0.2.2.1,e0.2.2.2,e1.1,e1.2.1,e1.2.2.1,e1.2.2.2,e2],fun B hB=>?_⟩;simp only [List.map_cons,List.map_nil,Wt] at hB;rw [zreal_w] at hB;have a0:=g0 B fun n hn=>hB n (List.mem_append_left _ hn);have a1:=g1 B fun n hn=>hB n (List.mem_append_right _ (List.mem_append_left _ hn));exact ⟨a0.1,a0.2,a1.1,a1.2⟩
end
end
section
variable {P:Program} {ops:Array Oper} {Q:Exit→Act→World→Prop} {rest:List Oper} {o:Oper} {a:Act} {w:World}
theorem gWC (hw:Region.wanted o (yielded ops a.tmps)=true)
  (h:∀ K:Act→World→Prop,(∀ a w,wpList P ops Q rest a w→K a w)→o.wp P a w K Q):wpList P ops Q (o :: rest) a w:=by
 unfold wpList;rw [if_pos hw];exact .inl (h _ fun _ _ h=>h)
theorem gWE (hw:Region.wanted o (yielded ops a.tmps)=true)
  (h:∃ v,(execOp a.eval o).run P w = .ok (.value v) w∧∀ K:Act→World→Prop,(∀ a w,wpList P ops Q rest a w→K a w)→K (a.put o.dst v) w):wpList P ops Q (o :: rest) a w:=by
 obtain⟨v,h1,h2⟩:=h;exact gWC hw fun K hK=>ybH v w h1 (h2 K hK)
theorem gWS (hw:Region.wanted o (yielded ops a.tmps)=false)
  (h:∀ K:Act→World→Prop,(∀ a w,wpList P ops Q rest a w→K a w)→K (a.put o.dst undef) w):wpList P ops Q (o :: rest) a w:=by
 unfold wpList;rw [hw];exact h _ fun _ _ h=>h
end
section
open Classical
theorem mvK_back {k:Nat} {x:K} {q:Rat} (h:Sm k x) (hk:k≤900) (hq:FitQ 24 q):mvK (-q) (mvK q x)=x:=by
 refine Subtype.ext ?_;rw [ybA (yeq h (by omega) hq) (by omega) hq.neg,ybA h (by omega) hq];unfold mvQ;have e:x.1.p+q + -q=x.1.p:=by grind
 rw [e]
end
section
open Classical
section
variable {S:List K} {w0 w w':World} {L:List (Value × List (Iv K))}
variable {v u:Value} {a b:List (Iv K)}
def BoolPost (S:List K) (w0:World) (L:List (Value × List (Iv K))) (r:Bool) (e:Ending) (w':World):Prop:=e = .returned (.bool r)∧MP S w0 w' L
theorem boolPost_of (h:MP S w0 w L) {r:Bool} {f:Nat} {args:Array Value} (hc:Calls prog f args w fun e w'=>e = .returned (.bool r)∧Keep [] w w'):Calls prog f args w (BoolPost S w0 L r) :=
 hc.mono fun e w' ⟨he,hk⟩=>⟨he,h.move hk⟩
theorem MP.over (h:MP S w0 w L) (hv:(v,a)∈L) (hu:(u,b)∈L):Calls prog 62 #[v,u] w (BoolPost S w0 L (decide (combK 2 a b≠[]))) :=
 boolPost_of h (overlaps_c a b (h.val hv) (h.val hu) w v u (h.get hv) (h.get hu) (by have:=h.len hv;omega) (by have:=h.len hu;omega))
end
end
section
open Classical
section
variable {k:Nat} {q:Rat} (hk:k≤900) (hq:FitQ 24 q)
include hk hq
theorem mvB_le {a b:Bd K} (ha:Sm k a.pt) (hb:Sm k b.pt):(⟨mvK q a.pt,a.beh⟩:Bd K)≤⟨mvK q b.pt,b.beh⟩↔a≤b:=by
 rw [Bd.le_def,Bd.le_def];dsimp only;rw [mvK_lt hk hq ha hb,mvK_eq hk hq ha hb]
end
end
section
open Classical
section
variable {k:Nat} {q:Rat} (hk:k≤900) (hq:FitQ 24 q)
include hk hq
end
section
variable {k:Nat} (hk:k≤800)
include hk
end
theorem swp_law {k:Nat} (hk:k≤800) {a b:Rat} (ha:FitQ 24 a) (hb:FitQ 24 b) (hab:a≤b) {l:List (Iv K)} (hl:Norm l) (sl:∀ i∈l,SmI k i) {t:K} (ht:Sm k t):holds (swpK a b l) t=decide (combK 2 l [⟨⟨mvK (-b) t,false⟩,⟨mvK (-a) t,true⟩⟩]≠[]):=by
 have ea:mvK a (mvK (-a) t)=t:=by have:=mvK_back ht (by omega) (q:=-a) ha.neg;rwa [Rat.neg_neg] at this
 have eb:mvK b (mvK (-b) t)=t:=by have:=mvK_back ht (by omega) (q:=-b) hb.neg;rwa [Rat.neg_neg] at this
 have sa:Sm (k+25) (mvK (-a) t):=yeq ht (by omega) ha.neg;have sb:Sm (k+25) (mvK (-b) t):=yeq ht (by omega) hb.neg
 have hle:mvK (-b) t≤mvK (-a) t:=by
  rw [K.le_def,ybA ht (by omega) ha.neg,ybA ht (by omega) hb.neg];exact fun hlt=>mvQ_mono t.2.1.nn (by grind) hlt
 rw [ycY,Bool.eq_iff_iff,decide_eq_true_iff];show hasL (normK (swpL a b l)) _=true↔_
 rw [normK_has,hasL_ex,Ne,hasL_ne (yaq _ _ _)];constructor
 ·rintro ⟨i',hi',h1,h2⟩ hz
  obtain⟨i,hi,rfl⟩:=List.mem_map.1 hi';have hi2:=sl i hi;have hvi:=hl.val i hi;have g1:mvB a i.f≤⟨t,false⟩:=h1;have g2:(⟨t,false⟩:Bd K)<mvB b i.l:=h2
  have g3:i.f≤⟨mvK (-a) t,false⟩:=by
   refine (mvB_le (k:=k+25) (q:=a) (by omega) ha (hi2.1.mono (by omega)) sa).1 ?_;dsimp only;rw [ea];exact g1
  have g4:(⟨mvK (-b) t,false⟩:Bd K)<i.l:=by
   refine (yhb (k:=k+25) (q:=b) (by omega) hb sb (hi2.2.mono (by omega))).1 ?_;dsimp only;rw [eb];exact g2
  by_cases hc:i.f≤⟨mvK (-b) t,false⟩
  ·have:=hz ⟨mvK (-b) t,false⟩
   rw [combK_has] at this;have this:(hasL l ⟨mvK (-b) t,false⟩&&hasL [⟨⟨mvK (-b) t,false⟩,⟨mvK (-a) t,true⟩⟩] ⟨mvK (-b) t,false⟩)=false:=this;rw [hasL_ex.2 ⟨i,hi,hc,g4⟩,hasL_ex.2 ⟨_,List.mem_singleton.2 rfl,by dsimp only;grind,by dsimp only;rw [Bd.lt_def];grind⟩] at this;cases this
  have:=hz i.f;rw [combK_has] at this;have this:(hasL l i.f&&hasL [⟨⟨mvK (-b) t,false⟩,⟨mvK (-a) t,true⟩⟩] i.f)=false:=this;rw [hasL_ex.2 ⟨i,hi,by grind,hvi⟩,hasL_ex.2 ⟨_,List.mem_singleton.2 rfl,by dsimp only;grind,by dsimp only;rw [Bd.lt_def];rw [Bd.le_def] at g3;grind⟩] at this;cases this
 intro hz
 have hz:∃ x,hasL (combK 2 l [⟨⟨mvK (-b) t,false⟩,⟨mvK (-a) t,true⟩⟩]) x=true:=by
  apply Classical.byContradiction;intro hn
  exact hz fun x=>by
   cases h:hasL (combK 2 l [⟨⟨mvK (-b) t,false⟩,⟨mvK (-a) t,true⟩⟩]) x
   ·rfl
   exact absurd ⟨x,h⟩ hn
 obtain⟨x,hx⟩:=hz;rw [combK_has] at hx;have hx:(hasL l x&&hasL [⟨⟨mvK (-b) t,false⟩,⟨mvK (-a) t,true⟩⟩] x)=true:=hx;rw [Bool.and_eq_true] at hx;obtain⟨i,hi,h1,h2⟩:=hasL_ex.1 hx.1;obtain⟨j,hj,h3,h4⟩:=hasL_ex.1 hx.2;rw [List.mem_singleton] at hj;subst hj;dsimp only at h3 h4;have hi2:=sl i hi
 have g3:i.f≤⟨mvK (-a) t,false⟩:=by
  rw [Bd.lt_def] at h4;rw [Bd.le_def] at h1 ⊢;grind
 have g4:(⟨mvK (-b) t,false⟩:Bd K)<i.l:=by grind
 refine ⟨swpI a b i,List.mem_map_of_mem hi,?_,?_⟩
 ·have:=(mvB_le (k:=k+25) (q:=a) (by omega) ha (hi2.1.mono (by omega)) sa).2 g3
  dsimp only at this;rw [ea] at this;exact this
 have:=(yhb (k:=k+25) (q:=b) (by omega) hb sb (hi2.2.mono (by omega))).2 g4;dsimp only at this;rw [eb] at this;exact this
end
section
open Classical
section
variable {w w':World} {L M:List (Value × List (Iv K))} {v u:Value} {a b l:List (Iv K)}
theorem Ls.over (h:Ls w L) (hv:(v,a)∈L) (hu:(u,b)∈L):Calls prog 62 #[v,u] w (BPost w (decide (combK 2 a b≠[]))) :=
 bPost_of (overlaps_c a b (h.val hv) (h.val hu) w v u (h _ hv).1 (h _ hu).1 (h _ hv).2.2 (h _ hu).2.2)
theorem Ls.cont (h:Ls w L) (hv:(v,a)∈L) (t:K):Calls prog 56 #[v,kv t] w (BPost w (holds a t)) :=
 bPost_of (contains_c a t w v (h _ hv).1 (Nat.le_trans (h _ hv).2.2 (by decide)))
end
section
variable {α:Type} {enc:α→List Value} {e:TypeId} {k:Nat} {w0 w w':World} {v:Value} {l:List α}
end
end
section
open Classical
open Go.ChangeShapes Go.WideShapes Go.ChangeAt
structure RawF where
 a1:Bool
 a2:ByteArray
 a3:Bool
 a4:ByteArray
def RawF.C (x:RawF):Array Value:=#[.bool x.a1,.string x.a2,.bool x.a3,.string x.a4]
def RawF.v (x:RawF):Value:=.agg x.C
def RawF.sz (x:RawF) (k:Nat):Prop:=x.a2.size≤k∧x.a4.size≤k
def RRArg (_:World) (v:Value):Prop:=∃ x:RawR,v=x.v∧x.sz 140737488351232
theorem RRArg_open {H:Type} {enc:TypeId × Value→H} {W:World} {v:Value} {base:Nat} {d:DataW H} {p:List MemPlace} (hv:Value.okWide prog W .any base 30 v)
  (h:∃ m,DataW.trod enc prog W 0 (fun _=>true) true m 30 v.cells.toList=some (d,p)) (hw:Wt 30 d reachBytes):RRArg W v:=by
 obtain⟨m,hm⟩:=h;obtain⟨r,ha,hs⟩:=zreal_trod hm;exact ⟨r,agg_of_cells ha (by simp [RawR.cells]),hs _ hw⟩
noncomputable def RawF.ok (x:RawF):Bool:=decide (x.a2.size+x.a4.size≤8)&&chkQ x.a1 x.a2 x.a3 x.a4
theorem dn_fit {d:Nat} (h:(dnS d).size≤8):Fit 8 (d:Int):=by
 unfold dnS at h;split at h
 ·rename_i he
  subst he;exact (ybw (n:=1) (by decide)).2.mono (by decide)
 exact h
theorem RawF.ok_some {x:RawF} (h:x.ok=true):∃ q:Rat,FitQ 8 q∧x.C=rC q:=by
 unfold RawF.ok at h;rw [Bool.and_eq_true,decide_eq_true_iff] at h;obtain⟨q,h1,h2,h3,h4⟩:=ydd.1 h.2;refine ⟨q,⟨?_,dn_fit ?_⟩,?_⟩
 ·unfold Fit
  rw [← h2];omega
 ·rw [← h4];omega
 unfold RawF.C;rw [h1,h2,h3,h4];rfl
theorem load_rawF {w:World} {g:Nat} {x:RawF} (h:w.heap[g]? = some (.cells x.C 28)):(loadVar 28 ⟨g,0,none⟩).run prog w = .ok (.agg x.C) w:=by
 obtain⟨ie,hie,hs⟩:=infoRat;exact Go.Lib.rl_loadVar_cells 28 ie hie isAgg28 g 0 x.C.toList (by rw [hs];rfl) w (fun k v hk=>by rw [Nat.zero_add,yac h];exact (Array.getElem?_toList ..).symm.trans hk)
theorem load_rawR {w:World} {g:Nat} {x:RawR} (h:w.heap[g]? = some (.cells x.cells.toArray 30)):(loadVar 30 ⟨g,0,none⟩).run prog w = .ok (.agg x.cells.toArray) w:=by
 obtain⟨ie,hie,hs⟩:=infoReal;exact Go.Lib.rl_loadVar_cells 30 ie hie isAgg30 g 0 x.cells (by rw [hs];rfl) w (fun k v hk=>by rw [Nat.zero_add,yac h];exact (List.getElem?_toArray ..).trans hk)
theorem fraction_c (x:RawF) (hs:x.sz 140737488351232) (w:World):Calls prog 37 #[x.v] w fun e w'=>e = .returned (.bool x.ok)∧Keep [] w w':=by
 have w1:IntKind.i64.wrap ((x.a2.size:Int)+(x.a4.size:Int))=(x.a2.size:Int)+(x.a4.size:Int):=by
  unfold RawF.sz at hs;exact IntWalk.i64_in _ (by omega)
 clear hs;unfold RawF.v;unfold RawF.ok;obtain⟨a1,a2,a3,a4⟩:=x;dsimp only at w1 ⊢;by_cases h8:a2.size+a4.size≤8
 ·have hd:((a2.size:Int)+(a4.size:Int))≤8:=by omega
  have HC:=jX (qchk_c a1 a2 a3 a4 (by omega) (by omega));rw [decide_eq_true h8,Bool.true_and];clear h8;generalize chkQ a1 a2 a3 a4=r at *;have HL:=jX (fun (u:World) (g:Nat)=>load_rawF (w:=u) (g:=g) (x:=⟨a1,a2,a3,a4⟩));rw [show RawF.C ⟨a1,a2,a3,a4⟩ = #[.bool a1,.string a2,.bool a3,.string a4] from rfl] at HL ⊢
  go_enter func37,ntmps37
  go_upto_region 1 with (fail)
  obtain⟨W,ga,hW,ega,Bga,hga,hgW,HkW⟩:=al1h w (.cells #[.bool a1,.string a2,.bool a3,.string a4] 28);rw [← hW];try rw [ega]
  clear hW ega;have pga:=yac Bga.out;refine wp_region_lit ?_;iterate 11 (first|(refine gWE (by rfl) ?_;refine ⟨?_,?_,fun K hK=>?_⟩;rotate_left;(go_simp;try rfl);go_simp;refine hK _ _ ?_;clear hK K)|(refine gWS (by rfl) (fun K hK=>?_);go_simp;refine hK _ _ ?_;clear hK K))
  refine gWE (by rfl) ⟨.agg #[.bool a1,.string a2,.bool a3,.string a4],yad _ _ ⟨ga,0,none⟩ _ rfl rfl (HL.out _ _ Bga.out),fun K hK=>?_⟩;go_simp;refine hK _ _ ?_;clear hK K;refine gWC (by rfl) (fun K hK=>?_);refine yaf 103 #[.agg #[.bool a1,.string a2,.bool a3,.string a4]] (by go_simp) ?_;refine (HC.out _).mono ?_;rintro e9 w4 ⟨rfl,hk⟩;refine ⟨_,rfl,?_⟩;go_simp;refine hK _ _ ?_;clear hK K;have HK:=jX (HkW.out.tz hk);clear hk HC HL;have e1:errF true = .int .i64 0:=rfl;have e2:errF false = .int .i64 5:=rfl;cases r
  ·rw [e2]
   iterate 2 (first|(refine gWE (by rfl) ?_;refine ⟨?_,?_,fun K hK=>?_⟩;rotate_left;(go_simp;try rfl);go_simp;refine hK _ _ ?_;clear hK K)|(refine gWS (by rfl) (fun K hK=>?_);go_simp;refine hK _ _ ?_;clear hK K))
   go_wp2_with fail;go_ret
   exact ⟨rfl,HK.out⟩
  rw [e1];iterate 2 (first|(refine gWE (by rfl) ?_;refine ⟨?_,?_,fun K hK=>?_⟩;rotate_left;(go_simp;try rfl);go_simp;refine hK _ _ ?_;clear hK K)|(refine gWS (by rfl) (fun K hK=>?_);go_simp;refine hK _ _ ?_;clear hK K))
  go_wp2_with fail;go_ret
  exact ⟨rfl,HK.out⟩
 have hd:¬ ((a2.size:Int)+(a4.size:Int))≤8:=by omega
 rw [decide_eq_false h8,Bool.false_and];clear h8;rw [show RawF.C ⟨a1,a2,a3,a4⟩ = #[.bool a1,.string a2,.bool a3,.string a4] from rfl]
 go_enter func37,ntmps37
 go_upto_region 1 with (fail)
 obtain⟨W,ga,hW,ega,Bga,hga,hgW,HkW⟩:=al1h w (.cells #[.bool a1,.string a2,.bool a3,.string a4] 28);rw [← hW];try rw [ega]
 clear hW ega;have pga:=yac Bga.out;go_wp2_with fail;go_ret
 exact ⟨rfl,HkW.out⟩
noncomputable def RawR.ok (x:RawR):Bool:=decide (x.a2.size+x.a4.size≤8)&&(decide (x.b2.size+x.b4.size≤8)&&decide x.isK)
theorem RawR.ok_some {x:RawR} (h:x.ok=true):∃ t:K,Sm 8 t∧x.cells.toArray=kC t:=by
 unfold RawR.ok at h;simp only [Bool.and_eq_true,decide_eq_true_iff] at h;obtain⟨h1,h2,q,hq,rfl⟩:=h
 have f:FitR 8 q:=by
  refine ⟨⟨?_,dn_fit ?_⟩,⟨?_,dn_fit ?_⟩⟩
  ·unfold Fit;exact Nat.le_trans (Nat.le_add_right _ _) h1
  ·exact Nat.le_trans (Nat.le_add_left _ _) h1
  ·unfold Fit;exact Nat.le_trans (Nat.le_add_right _ _) h2
  exact Nat.le_trans (Nat.le_add_left _ _) h2
 exact ⟨⟨q,hq,f.1.mono (by decide),f.2.mono (by decide)⟩,f,rfl⟩
theorem small_c (x:RawR) (hs:x.sz 140737488351232) (w:World):Calls prog 51 #[x.v] w fun e w'=>e = .returned (.bool x.ok)∧Below w.heap.size w w':=by
 obtain⟨w1,w2⟩:IntKind.i64.wrap ((x.a2.size:Int)+(x.a4.size:Int))=(x.a2.size:Int)+(x.a4.size:Int)∧IntKind.i64.wrap ((x.b2.size:Int)+(x.b4.size:Int))=(x.b2.size:Int)+(x.b4.size:Int):=by
  unfold RawR.sz at hs;exact ⟨IntWalk.i64_in _ (by omega),IntWalk.i64_in _ (by omega)⟩
 clear hs;unfold RawR.ok;by_cases h8:x.a2.size+x.a4.size≤8
 ·have hd:((x.a2.size:Int)+(x.a4.size:Int))≤8:=by omega
  rw [decide_eq_true h8,Bool.true_and];by_cases h9:x.b2.size+x.b4.size≤8
  ·have hd2:((x.b2.size:Int)+(x.b4.size:Int))≤8:=by omega
   have HC:=jX (rchk_p x ⟨by omega,by omega,by omega,by omega⟩);rw [decide_eq_true h9,Bool.true_and];clear h8 h9;generalize decide x.isK=r at *;have HL:=jX (fun (u:World) (g:Nat)=>load_rawR (w:=u) (g:=g) (x:=x));unfold RawR.v at HC ⊢;unfold RawR.cells at HL;obtain⟨a1,a2,a3,a4,b1,b2,b3,b4,n⟩:=x;dsimp only at *;go_enter func51,ntmps51
   go_upto_region 1 with (fail)
   obtain⟨W,ga,hW,ega,Bga,hga,hgW,HkW⟩:=al1h w (.cells #[.bool a1,.string a2,.bool a3,.string a4,.bool b1,.string b2,.bool b3,.string b4,.bool n] 30);rw [← hW];try rw [ega]
   clear hW ega;have pga:=yac Bga.out;refine wp_region_lit ?_;iterate 27 (first|(refine gWE (by rfl) ?_;refine ⟨?_,?_,fun K hK=>?_⟩;rotate_left;(go_simp;try rfl);go_simp;refine hK _ _ ?_;clear hK K)|(refine gWS (by rfl) (fun K hK=>?_);go_simp;refine hK _ _ ?_;clear hK K))
   refine gWE (by rfl) ⟨.agg #[.bool a1,.string a2,.bool a3,.string a4,.bool b1,.string b2,.bool b3,.string b4,.bool n],yad _ _ ⟨ga,0,none⟩ _ rfl rfl (HL.out _ _ Bga.out),fun K hK=>?_⟩;go_simp;refine hK _ _ ?_;clear hK K;refine gWC (by rfl) (fun K hK=>?_);refine yaf 75 #[.agg #[.bool a1,.string a2,.bool a3,.string a4,.bool b1,.string b2,.bool b3,.string b4,.bool n]] (by go_simp) ?_;refine (HC.out _).mono ?_;rintro e9 w4 ⟨rfl,hk⟩;refine ⟨_,rfl,?_⟩;go_simp;refine hK _ _ ?_;clear hK K;have HK:=jX (HkW.out.bz.trans (Below.mono hk HkW.out.size));clear hk HC HL;have e1:errF true = .int .i64 0:=rfl;have e2:errF false = .int .i64 5:=rfl;cases r
   ·rw [e2]
    iterate 2 (first|(refine gWE (by rfl) ?_;refine ⟨?_,?_,fun K hK=>?_⟩;rotate_left;(go_simp;try rfl);go_simp;refine hK _ _ ?_;clear hK K)|(refine gWS (by rfl) (fun K hK=>?_);go_simp;refine hK _ _ ?_;clear hK K))
    go_wp2_with fail;go_ret
    exact ⟨rfl,HK.out⟩
   rw [e1];iterate 2 (first|(refine gWE (by rfl) ?_;refine ⟨?_,?_,fun K hK=>?_⟩;rotate_left;(go_simp;try rfl);go_simp;refine hK _ _ ?_;clear hK K)|(refine gWS (by rfl) (fun K hK=>?_);go_simp;refine hK _ _ ?_;clear hK K))
   go_wp2_with fail;go_ret
   exact ⟨rfl,HK.out⟩
  have hd2:¬ ((x.b2.size:Int)+(x.b4.size:Int))≤8:=by omega
  rw [decide_eq_false h9,Bool.false_and];clear h8 h9;unfold RawR.v;obtain⟨a1,a2,a3,a4,b1,b2,b3,b4,n⟩:=x;dsimp only at *;go_enter func51,ntmps51
  go_upto_region 1 with (fail)
  obtain⟨W,ga,hW,ega,Bga,hga,hgW,HkW⟩:=al1h w (.cells #[.bool a1,.string a2,.bool a3,.string a4,.bool b1,.string b2,.bool b3,.string b4,.bool n] 30);rw [← hW];try rw [ega]
  clear hW ega;have pga:=yac Bga.out;go_wp2_with fail;go_ret
  exact ⟨rfl,HkW.out.bz⟩
 have hd:¬ ((x.a2.size:Int)+(x.a4.size:Int))≤8:=by omega
 rw [decide_eq_false h8,Bool.false_and];clear h8;unfold RawR.v;obtain⟨a1,a2,a3,a4,b1,b2,b3,b4,n⟩:=x;dsimp only at *;go_enter func51,ntmps51
 go_upto_region 1 with (fail)
 obtain⟨W,ga,hW,ega,Bga,hga,hgW,HkW⟩:=al1h w (.cells #[.bool a1,.string a2,.bool a3,.string a4,.bool b1,.string b2,.bool b3,.string b4,.bool n] 30);rw [← hW];try rw [ega]
 clear hW ega;have pga:=yac Bga.out;go_wp2_with fail;go_ret
 exact ⟨rfl,HkW.out.bz⟩
end
section
open Classical
def StsT (w:World) (svs:List StV):Prop:=∀ x∈svs,Ls w [(x.v,x.s.d)]∧TyI w x.v
theorem StsT.grow {w w':World} {vs:List StV} (h:StsT w vs) (hb:Below w.heap.size w w'):StsT w' vs:=fun x hx=>⟨(h x hx).1.grow hb,(h x hx).2.grow hb⟩
theorem s_ne:65≠32:=by decide
theorem StsT.ty {w w':World} {vs:List StV} {F:List Nat} (h:StsT w vs) (hF:∀ g∈F,∃ cur,w.heap[g]? = some (.cells cur 65)) (hk:Keep F w w'):StsT w' vs:=fun x hx=>(h x hx).1.tyE s_ne (h x hx).2 hF hk
end
section
open Classical
open Go.ChangeShapes Go.WideShapes Go.ChangeAt
def EvArg (w:World) (v:Value):Prop:=∃ a c e,v = .agg (fvcells (.slice a (EvA.ps e).length c) e).toArray∧PartsAt w (.slice a (EvA.ps e).length c) (EvA.ps e)
theorem EvArg_open {H:Type} {enc:TypeId × Value→H} {W:World} {v:Value} {base:Nat} {d:DataW H} {p:List MemPlace} (hv:Value.okWide prog W .any base 80 v)
  (h:∃ m,DataW.trod enc prog W 0 (fun _=>true) true m 80 v.cells.toList=some (d,p)):EvArg W v:=by
 obtain⟨m,hm⟩:=h;obtain⟨s,e,ha,hp⟩:=yhx hm;obtain⟨a,c,rfl,_⟩:=hp.form;exact ⟨a,c,e,agg_of_cells ha (by simp [fvcells]),hp⟩
theorem infoVnB:(prog.info? 80).map (fun i=>(i.zero.map Value.cells,i.size,i.bytes))=some (some #[.slice none 0 0,.int .u8 0,.int .u8 0,.int .u8 0,.int .u8 0],5,32):=by kernel_rfl
theorem fill_ev (a:Option Addr) (n c:Nat) (x1 x2 x3 x4:Int):Instr.fill (fun i=>some (i*5,5)) ((Array.range (1*5)).map ((#[.slice none 0 0,.int .u8 0,.int .u8 0,.int .u8 0,.int .u8 0]:Array Value)[· % (#[.slice none 0 0,.int .u8 0,.int .u8 0,.int .u8 0,.int .u8 0]:Array Value).size]!)) #[(0,Value.agg #[.slice a n c,.int .u8 x1,.int .u8 x2,.int .u8 x3,.int .u8 x4])].toList=some #[.slice a n c,.int .u8 x1,.int .u8 x2,.int .u8 x3,.int .u8 x4]:=by kernel_rfl
theorem build1_ev (a:Option Addr) (n c:Nat) (e:EvA) (w:World):(Instr.buildSlice 60 1 #[(0,.agg (fvcells (.slice a n c) e).toArray)]).run prog w = .ok (.slice (some ⟨w.heap.size,0,none⟩) 1 1) (w.alloc (.cells (fvcells (.slice a n c) e).toArray 80)):=by
 have h:=infoVnB;cases hi:prog.info? 80 with
 | none=>rw [hi] at h;cases h
 | some i =>
  rw [hi] at h;simp only [Option.map_some,Option.some.injEq,Prod.mk.injEq] at h;obtain⟨h1,h2,h3⟩:=h;cases hz:i.zero with
  | none=>rw [hz] at h1;cases h1
  | some z =>
   rw [hz] at h1;injection h1 with h1;refine run_buildSlice (P:=prog) w 60 80 1 _ _ i z underlying60 hi hz (by rw [h2];decide) (by rw [h2];decide) ?_;rw [h2,h1];exact fill_ev _ _ _ _ _ _ _
theorem evs_one {w:World} {g:Nat} {s:Value} {e:EvA} {t:TypeId} (h:w.heap[g]? = some (.cells (fvcells s e).toArray t)) (hp:PartsAt w s e.ps):EvsAt w (.slice (some ⟨g,0,none⟩) 1 1) [e] :=
 .inr ⟨g,0,1,rfl,by simp [maxLen],fun i hi=>by
  obtain rfl:i=0:=by simp at hi;omega
  refine ⟨s,fun j v hj=>?_,hp⟩;rw [show 0+0*5+j=j by omega,yac h]
  exact (List.getElem?_toArray ..).trans hj⟩
def DurP (w:World) (d:List (Iv K)) (e:Ending) (w':World):Prop:=∃ g o c a n,e = .returned (.slice (some ⟨g,o,none⟩) 1 c)∧g<w'.heap.size∧w'.cell? ⟨g,o,none⟩=some (.slice a d.length n)∧Ls w' [(.slice a d.length n,d)]∧Below w.heap.size w w'
theorem Steps_one {w:World} {sv:Value} {e:EvA} (h:EvsAt w sv [e]):Calls prog 38 #[sv] w (DurP w (evD e)) :=
 (Steps_s [e] w sv h).mono fun r w' ⟨xa,xc,svs,he,hs,_,hst,hl,hb⟩=>by
  have h1:svs.length=1:=by rw [hl];rfl
  match svs,h1 with
  | [x],_ =>
   obtain⟨g,o,rfl,hg,hat⟩:=hs.elem 0 (by show 0<1;decide)
   have hx:x.s=evS 0 e:=by
    have:[x.s]=[evS 0 e]:=hst;injection this
   have hd:x.s.d=evD e:=by rw [hx];rfl
   have h0:=hat.d0;have hls:=hs.ls (x:=x) (List.mem_singleton.2 rfl);unfold StV.v at hls;change World.cell? _ _=some (StV.v x) at h0;unfold StV.v at h0;rw [hd] at h0 hls;exact ⟨g,o,xc,x.a,x.c,he,hg,by simpa using h0,hls,hb⟩
theorem evD_sm (e:EvA):∀ i∈evD e,SmI 5 i:=fun i hi=>⟨evPts_sm e _ (evD_pts e i hi).1,evPts_sm e _ (evD_pts e i hi).2⟩
theorem evD_few (e:EvA):Few 8 (evD e):=⟨evPts e,yfp e,evD_pts e⟩
theorem evD_norm (e:EvA):Norm (evD e):=yaq _ _ _
end
section
open Classical
open Go.ChangeShapes Go.WideShapes Go.ChangeAt
theorem cells_zrat2:prog.cellsOf 91=8:=by kernel_rfl
def two (x y:RawF):Array Value:=#[.bool x.a1,.string x.a2,.bool x.a3,.string x.a4,.bool y.a1,.string y.a2,.bool y.a3,.string y.a4]
def R2Arg (_:World) (v:Value):Prop:=∃ x y:RawF,v = .agg (two x y)∧x.sz 140737488351232∧y.sz 140737488351232
theorem zrat2_w {H:Type} (a b:DataW H):(DataW.agg [a,b]:DataW H).weights prog 91=a.weights prog 28++b.weights prog 28:=by
 simp [DataW.weights,DataW.weightsAll,underlying91]
theorem zrat2_trod {H:Type} {enc:TypeId × Value→H} {w:World} {base:Nat} {held:Bool} {fuel:Nat} {cs:List Value} {x:DataW H × List MemPlace} (h:DataW.trod enc prog w base (fun _=>true) held fuel 91 cs=some x):∃ a b:RawF,cs=(two a b).toList∧∀ B,Wt 91 x.1 B→a.sz B∧b.sz B:=by
 obtain⟨xs,n,_,rfl,hl,hlen,hf⟩:=DataW.trod_array underlying91 h;rw [cells_zrat2] at hl
 match cs,hl with
 | [c0,c1,c2,c3,c4,c5,c6,c7],_ =>
  match xs,hlen with
  | [x0,x1],_ =>
   have h0:=hf 0 (by decide);have h1:=hf 1 (by decide);rw [cells_zrat] at h0 h1;obtain⟨b,s,d,t,e0,g0⟩:=zrat_trod h0;obtain⟨b',s',d',t',e1,g1⟩:=zrat_trod h1;simp at e0 e1;refine ⟨⟨b,s,d,t⟩,⟨b',s',d',t'⟩,by simp only [two];rw [e0.1,e0.2.1,e0.2.2.1,e0.2.2.2,e1.1,e1.2.1,e1.2.2.1,e1.2.2.2],fun B hB=>?_⟩;simp only [List.map_cons,List.map_nil,Wt] at hB;rw [zrat2_w] at hB;exact ⟨g0 B fun n hn=>hB n (List.mem_append_left _ hn),g1 B fun n hn=>hB n (List.mem_append_right _ hn)⟩
theorem R2Arg_open {H:Type} {enc:TypeId × Value→H} {W:World} {v:Value} {base:Nat} {d:DataW H} {p:List MemPlace} (hv:Value.okWide prog W .any base 91 v)
  (h:∃ m,DataW.trod enc prog W 0 (fun _=>true) true m 91 v.cells.toList=some (d,p)) (hw:Wt 91 d reachBytes):R2Arg W v:=by
 obtain⟨m,hm⟩:=h;obtain⟨a,b,ha,hs⟩:=zrat2_trod hm;have:=hs _ hw;exact ⟨a,b,agg_of_cells ha (by simp [two]),this.1,this.2⟩
theorem load_2a {w:World} {g:Nat} {x y:RawF} {t:TypeId} (h:w.heap[g]? = some (.cells (two x y) t)):(loadVar 28 ⟨g,0,none⟩).run prog w = .ok (.agg x.C) w:=by
 obtain⟨ie,hie,hs⟩:=infoRat
 exact Go.Lib.rl_loadVar_cells 28 ie hie isAgg28 g 0 x.C.toList (by rw [hs];rfl) w (fun k v hk=>by
  rw [Nat.zero_add,yac h]
  match k,hk with
  | 0,hk=>exact hk
  | 1,hk=>exact hk
  | 2,hk=>exact hk
  | 3,hk=>exact hk
  | k+4,hk=>simp [RawF.C] at hk)
theorem load_2b {w:World} {g:Nat} {x y:RawF} {t:TypeId} (h:w.heap[g]? = some (.cells (two x y) t)):(loadVar 28 ⟨g,4,none⟩).run prog w = .ok (.agg y.C) w:=by
 obtain⟨ie,hie,hs⟩:=infoRat
 exact Go.Lib.rl_loadVar_cells 28 ie hie isAgg28 g 4 y.C.toList (by rw [hs];rfl) w (fun k v hk=>by
  rw [yac h]
  match k,hk with
  | 0,hk=>exact hk
  | 1,hk=>exact hk
  | 2,hk=>exact hk
  | 3,hk=>exact hk
  | k+4,hk=>simp [RawF.C] at hk)
end
section
open Classical
def mnQ (a b:Rat):Rat:=if a≤b then a else b
def mxQ (a b:Rat):Rat:=if b≤a then a else b
theorem mn_mx (a b:Rat):mnQ a b≤mxQ a b:=by
 unfold mnQ mxQ;split<;>split<;>grind
theorem mn_fit {k:Nat} {a b:Rat} (ha:FitQ k a) (hb:FitQ k b):FitQ k (mnQ a b):=by
 unfold mnQ;split<;>assumption
theorem mx_fit {k:Nat} {a b:Rat} (ha:FitQ k a) (hb:FitQ k b):FitQ k (mxQ a b):=by
 unfold mxQ;split<;>assumption
theorem sgn_le {a b:Rat}:sgn (a-b)≤0↔a≤b:=by
 rcases yaS (a-b) with ⟨h,e⟩|⟨h,e⟩|⟨h,e⟩<;>rw [e]<;>constructor<;>intro k<;>first|decide|grind
theorem sgn_ge {a b:Rat}:0≤sgn (a-b)↔b≤a:=by
 rcases yaS (a-b) with ⟨h,e⟩|⟨h,e⟩|⟨h,e⟩<;>rw [e]<;>constructor<;>intro k<;>first|decide|grind
theorem QMin_c (a b:Rat) (ha:FitQ 1000 a) (hb:FitQ 1000 b) (w:World):Calls prog 57 #[rv a,rv b] w fun e w'=>e = .returned (rv (mnQ a b))∧Keep [] w w':=by
 have H:=jX (QCompare_c a b (ha.mono (by decide)) (hb.mono (by decide)));clear ha hb;unfold mnQ;by_cases h:a≤b
 ·rw [if_pos h]
  have hn:sgn (a-b)≤0:=sgn_le.2 h;generalize sgn (a-b)=n at *;clear h;unfold rv at *;generalize sgB (a).num=na at *;generalize mgS (a).num=sa at *;generalize dnS (a).den=da at *;generalize sgB (b).num=nb at *;generalize mgS (b).num=sb at *;generalize dnS (b).den=db at *;go_enter func57,ntmps57
  go_upto_region 1 with (fail)
  obtain⟨W,ga,gb,gc,hW,ega,egb,egc,Bga,Bgb,Bgc,hga,hgb,hgc,hgW,HkW⟩:=al3h w (.cells #[.bool na,.string sa,.bool false,.string da] 28) (.cells #[.bool nb,.string sb,.bool false,.string db] 28) (.cells #[.bool false,.string ⟨#[]⟩,.bool false,.string ⟨#[]⟩] 28);rw [← hW];try rw [egc]
  try rw [egb]
  try rw [ega]
  clear hW ega egb egc;obtain⟨pga,fga,lga⟩:=jQ Bga;obtain⟨pgb,fgb,lgb⟩:=jQ Bgb;go_wp2_with fail;refine (H.out _).mono ?_;rintro e wz ⟨rfl,hk_wz⟩;dsimp only;clear H pga fga lga pgb fgb lgb;replace Bga:=jH hk_wz Bga;replace Bgb:=jH hk_wz Bgb;replace Bgc:=jH hk_wz Bgc;replace HkW:=jX (HkW.out.tz hk_wz);clear hk_wz;obtain⟨pga,fga,lga⟩:=jQ Bga;obtain⟨pgc,fgc,lgc⟩:=jQ Bgc;go_wp2_with fail;refine bodyPost_ret (v:=.agg #[.bool na,.string sa,.bool false,.string da]) ?_ rfl ⟨rfl,by repeat (first|(with_reducible exact HkW.out)|(refine Keep.sP ?_ _ _ _ (by omega))|(refine Keep.aP ?_ _)|(refine Keep.dP ?_))⟩;rw [yaj rfl];go_simp
 rw [if_neg h];have hn:¬ sgn (a-b)≤0:=by have:=mt sgn_le.1 h;omega
 generalize sgn (a-b)=n at *;clear h;unfold rv at *;generalize sgB (a).num=na at *;generalize mgS (a).num=sa at *;generalize dnS (a).den=da at *;generalize sgB (b).num=nb at *;generalize mgS (b).num=sb at *;generalize dnS (b).den=db at *;go_enter func57,ntmps57
 go_upto_region 1 with (fail)
 obtain⟨W,ga,gb,gc,hW,ega,egb,egc,Bga,Bgb,Bgc,hga,hgb,hgc,hgW,HkW⟩:=al3h w (.cells #[.bool na,.string sa,.bool false,.string da] 28) (.cells #[.bool nb,.string sb,.bool false,.string db] 28) (.cells #[.bool false,.string ⟨#[]⟩,.bool false,.string ⟨#[]⟩] 28);rw [← hW];try rw [egc]
 try rw [egb]
 try rw [ega]
 clear hW ega egb egc;obtain⟨pga,fga,lga⟩:=jQ Bga;obtain⟨pgb,fgb,lgb⟩:=jQ Bgb;go_wp2_with fail;refine (H.out _).mono ?_;rintro e wz ⟨rfl,hk_wz⟩;dsimp only;clear H pga fga lga pgb fgb lgb;replace Bga:=jH hk_wz Bga;replace Bgb:=jH hk_wz Bgb;replace Bgc:=jH hk_wz Bgc;replace HkW:=jX (HkW.out.tz hk_wz);clear hk_wz;obtain⟨pgb,fgb,lgb⟩:=jQ Bgb;obtain⟨pgc,fgc,lgc⟩:=jQ Bgc;go_wp2_with fail;refine bodyPost_ret (v:=.agg #[.bool nb,.string sb,.bool false,.string db]) ?_ rfl ⟨rfl,by repeat (first|(with_reducible exact HkW.out)|(refine Keep.sP ?_ _ _ _ (by omega))|(refine Keep.aP ?_ _)|(refine Keep.dP ?_))⟩;rw [yaj rfl];go_simp
theorem QMax_c (a b:Rat) (ha:FitQ 1000 a) (hb:FitQ 1000 b) (w:World):Calls prog 58 #[rv a,rv b] w fun e w'=>e = .returned (rv (mxQ a b))∧Keep [] w w':=by
 have H:=jX (QCompare_c a b (ha.mono (by decide)) (hb.mono (by decide)));clear ha hb;unfold mxQ;by_cases h:b≤a
 ·rw [if_pos h]
  have hn:0≤sgn (a-b):=sgn_ge.2 h;generalize sgn (a-b)=n at *;clear h;unfold rv at *;generalize sgB (a).num=na at *;generalize mgS (a).num=sa at *;generalize dnS (a).den=da at *;generalize sgB (b).num=nb at *;generalize mgS (b).num=sb at *;generalize dnS (b).den=db at *;go_enter func58,ntmps58
  go_upto_region 1 with (fail)
  obtain⟨W,ga,gb,gc,hW,ega,egb,egc,Bga,Bgb,Bgc,hga,hgb,hgc,hgW,HkW⟩:=al3h w (.cells #[.bool na,.string sa,.bool false,.string da] 28) (.cells #[.bool nb,.string sb,.bool false,.string db] 28) (.cells #[.bool false,.string ⟨#[]⟩,.bool false,.string ⟨#[]⟩] 28);rw [← hW];try rw [egc]
  try rw [egb]
  try rw [ega]
  clear hW ega egb egc;obtain⟨pga,fga,lga⟩:=jQ Bga;obtain⟨pgb,fgb,lgb⟩:=jQ Bgb;go_wp2_with fail;refine (H.out _).mono ?_;rintro e wz ⟨rfl,hk_wz⟩;dsimp only;clear H pga fga lga pgb fgb lgb;replace Bga:=jH hk_wz Bga;replace Bgb:=jH hk_wz Bgb;replace Bgc:=jH hk_wz Bgc;replace HkW:=jX (HkW.out.tz hk_wz);clear hk_wz;obtain⟨pga,fga,lga⟩:=jQ Bga;obtain⟨pgc,fgc,lgc⟩:=jQ Bgc;go_wp2_with fail;refine bodyPost_ret (v:=.agg #[.bool na,.string sa,.bool false,.string da]) ?_ rfl ⟨rfl,by repeat (first|(with_reducible exact HkW.out)|(refine Keep.sP ?_ _ _ _ (by omega))|(refine Keep.aP ?_ _)|(refine Keep.dP ?_))⟩;rw [yaj rfl];go_simp
 rw [if_neg h];have hn:¬ 0≤sgn (a-b):=by have:=mt sgn_ge.1 h;omega
 generalize sgn (a-b)=n at *;clear h;unfold rv at *;generalize sgB (a).num=na at *;generalize mgS (a).num=sa at *;generalize dnS (a).den=da at *;generalize sgB (b).num=nb at *;generalize mgS (b).num=sb at *;generalize dnS (b).den=db at *;go_enter func58,ntmps58
 go_upto_region 1 with (fail)
 obtain⟨W,ga,gb,gc,hW,ega,egb,egc,Bga,Bgb,Bgc,hga,hgb,hgc,hgW,HkW⟩:=al3h w (.cells #[.bool na,.string sa,.bool false,.string da] 28) (.cells #[.bool nb,.string sb,.bool false,.string db] 28) (.cells #[.bool false,.string ⟨#[]⟩,.bool false,.string ⟨#[]⟩] 28);rw [← hW];try rw [egc]
 try rw [egb]
 try rw [ega]
 clear hW ega egb egc;obtain⟨pga,fga,lga⟩:=jQ Bga;obtain⟨pgb,fgb,lgb⟩:=jQ Bgb;go_wp2_with fail;refine (H.out _).mono ?_;rintro e wz ⟨rfl,hk_wz⟩;dsimp only;clear H pga fga lga pgb fgb lgb;replace Bga:=jH hk_wz Bga;replace Bgb:=jH hk_wz Bgb;replace Bgc:=jH hk_wz Bgc;replace HkW:=jX (HkW.out.tz hk_wz);clear hk_wz;obtain⟨pgb,fgb,lgb⟩:=jQ Bgb;obtain⟨pgc,fgc,lgc⟩:=jQ Bgc;go_wp2_with fail;refine bodyPost_ret (v:=.agg #[.bool nb,.string sb,.bool false,.string db]) ?_ rfl ⟨rfl,by repeat (first|(with_reducible exact HkW.out)|(refine Keep.sP ?_ _ _ _ (by omega))|(refine Keep.aP ?_ _)|(refine Keep.dP ?_))⟩;rw [yaj rfl];go_simp
end
section
open Classical
theorem patternSweeps_c (w:World) (v0:Value) (v1:Value) (v2:Value) (m0:EvArg w v0) (m1:R2Arg w v1) (m2:RRArg w v2) :
  Calls prog 10 #[v0,v1,v2] w fun e w'=>e = .returned (.bool true)∧Below w.heap.size w w':=by
 obtain⟨pa,pc,ev,rfl,hpt⟩:=m0;obtain⟨f,h,rfl,hs1,hs2⟩:=m1;obtain⟨x,rfl,hsz⟩:=m2;have HF:=jX (small_c x hsz);have HA:=jX (fraction_c f hs1);have HH:=jX (fraction_c h hs2);have HP:=jX hpt;have HK:=jX (fun u=>known51_c u);have HLr:=jX (fun (u:World) (g:Nat)=>load_rawR (w:=u) (g:=g) (x:=x));have HLa:=jX (fun (u:World) (g:Nat)=>load_2a (w:=u) (g:=g) (x:=f) (y:=h) (t:=91));have HLb:=jX (fun (u:World) (g:Nat)=>load_2b (w:=u) (g:=g) (x:=f) (y:=h) (t:=91));have hvx:x.v = .agg x.cells.toArray:=rfl;unfold RawF.v at HA HH;rw [hvx] at HF ⊢;clear hsz hpt hs1 hs2 hvx;cases hok:x.ok with
 | false =>
  rw [hok] at HF;clear hok HA HH HLa HLb;generalize x.cells.toArray=X at *;generalize two f h=T2 at *;go_enter func10,ntmps10
  go_upto_region 1 with (fail)
  obtain⟨W,ga,gb,gc,hW,ega,egb,egc,Bga,Bgb,Bgc,hga,hgb,hgc,hgW,HkW⟩:=al3h w (.cells (fvcells (.slice pa ev.ps.length pc) ev).toArray 80) (.cells T2 91) (.cells X 30);rw [← hW];try rw [egc]
  try rw [egb]
  try rw [ega]
  clear hW ega egb egc;refine wp_region_lit ?_;refine wpList_plain (by rfl) (fun K hK=>?_);refine yaf 36 #[] (by go_simp) ?_;refine (HK.out _).mono ?_;rintro e9 w3 ⟨rfl,hb⟩;refine ⟨_,rfl,?_⟩;go_simp;refine hK _ _ ?_;clear hK K;have HB:=jX (HkW.out.bz.trans (Below.mono hb HkW.out.size));have Bgc:=jX ((hb.block gc (yaa Bgc.out)).trans Bgc.out);clear hb;iterate 2 (first|(refine gWE (by rfl) ?_;refine ⟨?_,?_,fun K hK=>?_⟩;rotate_left;(go_simp;try rfl);go_simp;refine hK _ _ ?_;clear hK K)|(refine gWS (by rfl) (fun K hK=>?_);go_simp;refine hK _ _ ?_;clear hK K))
  refine gWE (by rfl) ⟨.agg X,yad _ _ ⟨gc,0,none⟩ _ rfl rfl (HLr.out _ _ Bgc.out),fun K hK=>?_⟩;go_simp;refine hK _ _ ?_;clear hK K;refine gWC (by rfl) (fun K hK=>?_);refine yaf 51 #[.agg X] (by go_simp) ?_;refine (HF.out _).mono ?_;rintro e9 w4 ⟨rfl,hb⟩;refine ⟨_,rfl,?_⟩;go_simp;refine hK _ _ ?_;clear hK K;have HB:=jX (HB.out.trans (Below.mono hb HB.out.size));clear hb HF;iterate 14 (first|(refine gWE (by rfl) ?_;refine ⟨?_,?_,fun K hK=>?_⟩;rotate_left;(go_simp;try rfl);go_simp;refine hK _ _ ?_;clear hK K)|(refine gWS (by rfl) (fun K hK=>?_);go_simp;refine hK _ _ ?_;clear hK K))
  go_wp2_with fail;refine (HK.out _).mono ?_;rintro e w7 ⟨rfl,hb⟩;dsimp only;have HB:=jX (HB.out.trans (Below.mono hb HB.out.size));clear hb;go_wp2_with fail;go_ret
  exact ⟨rfl,HB.out⟩
 | true =>
  obtain⟨t,ht,hx⟩:=RawR.ok_some hok;rw [hok] at HF;rw [hx] at HF HLr ⊢;clear hok hx;cases hok:f.ok with
  | false =>
   rw [hok] at HA;clear hok HH HLb ht;generalize kC t=X at *;generalize two f h=T2 at *;generalize f.C=C1 at *;go_enter func10,ntmps10
   go_upto_region 1 with (fail)
   obtain⟨W,ga,gb,gc,hW,ega,egb,egc,Bga,Bgb,Bgc,hga,hgb,hgc,hgW,HkW⟩:=al3h w (.cells (fvcells (.slice pa ev.ps.length pc) ev).toArray 80) (.cells T2 91) (.cells X 30);rw [← hW];try rw [egc]
   try rw [egb]
   try rw [ega]
   clear hW ega egb egc;refine wp_region_lit ?_;refine wpList_plain (by rfl) (fun K hK=>?_);refine yaf 36 #[] (by go_simp) ?_;refine (HK.out _).mono ?_;rintro e9 w3 ⟨rfl,hb⟩;refine ⟨_,rfl,?_⟩;go_simp;refine hK _ _ ?_;clear hK K;have HB:=jX (HkW.out.bz.trans (Below.mono hb HkW.out.size));have Bgb:=jX ((hb.block gb (yaa Bgb.out)).trans Bgb.out);have Bgc:=jX ((hb.block gc (yaa Bgc.out)).trans Bgc.out);clear hb;iterate 2 (first|(refine gWE (by rfl) ?_;refine ⟨?_,?_,fun K hK=>?_⟩;rotate_left;(go_simp;try rfl);go_simp;refine hK _ _ ?_;clear hK K)|(refine gWS (by rfl) (fun K hK=>?_);go_simp;refine hK _ _ ?_;clear hK K))
   refine gWE (by rfl) ⟨.agg X,yad _ _ ⟨gc,0,none⟩ _ rfl rfl (HLr.out _ _ Bgc.out),fun K hK=>?_⟩;go_simp;refine hK _ _ ?_;clear hK K;refine gWC (by rfl) (fun K hK=>?_);refine yaf 51 #[.agg X] (by go_simp) ?_;refine (HF.out _).mono ?_;rintro e9 w4 ⟨rfl,hb⟩;refine ⟨_,rfl,?_⟩;go_simp;refine hK _ _ ?_;clear hK K;have HB:=jX (HB.out.trans (Below.mono hb HB.out.size));have Bgb:=jX ((hb.block gb (yaa Bgb.out)).trans Bgb.out);clear hb HF;iterate 4 (first|(refine gWE (by rfl) ?_;refine ⟨?_,?_,fun K hK=>?_⟩;rotate_left;(go_simp;try rfl);go_simp;refine hK _ _ ?_;clear hK K)|(refine gWS (by rfl) (fun K hK=>?_);go_simp;refine hK _ _ ?_;clear hK K))
   refine gWE (by rfl) ⟨.agg C1,yad _ _ ⟨gb,0,none⟩ _ rfl rfl (HLa.out _ _ Bgb.out),fun K hK=>?_⟩;go_simp;refine hK _ _ ?_;clear hK K;refine gWC (by rfl) (fun K hK=>?_);refine yaf 37 #[.agg C1] (by go_simp) ?_;refine (HA.out _).mono ?_;rintro e9 w5 ⟨rfl,hk⟩;refine ⟨_,rfl,?_⟩;go_simp;refine hK _ _ ?_;clear hK K;have hb:=hk.bz;have HB:=jX (HB.out.trans (Below.mono hb HB.out.size));clear hb hk HA;iterate 8 (first|(refine gWE (by rfl) ?_;refine ⟨?_,?_,fun K hK=>?_⟩;rotate_left;(go_simp;try rfl);go_simp;refine hK _ _ ?_;clear hK K)|(refine gWS (by rfl) (fun K hK=>?_);go_simp;refine hK _ _ ?_;clear hK K))
   go_wp2_with fail;refine (HK.out _).mono ?_;rintro e w7 ⟨rfl,hb⟩;dsimp only;have HB:=jX (HB.out.trans (Below.mono hb HB.out.size));clear hb;go_wp2_with fail;go_ret
   exact ⟨rfl,HB.out⟩
  | true =>
   obtain⟨p,hp,hfC⟩:=RawF.ok_some hok;rw [hok,hfC] at HA;rw [hfC] at HLa;clear hok hfC;cases hok:h.ok with
   | false =>
    rw [hok] at HH;clear hok ht hp;generalize kC t=X at *;generalize two f h=T2 at *;generalize h.C=C2 at *;generalize rC p=C1 at *;go_enter func10,ntmps10
    go_upto_region 1 with (fail)
    obtain⟨W,ga,gb,gc,hW,ega,egb,egc,Bga,Bgb,Bgc,hga,hgb,hgc,hgW,HkW⟩:=al3h w (.cells (fvcells (.slice pa ev.ps.length pc) ev).toArray 80) (.cells T2 91) (.cells X 30);rw [← hW];try rw [egc]
    try rw [egb]
    try rw [ega]
    clear hW ega egb egc;refine wp_region_lit ?_;refine wpList_plain (by rfl) (fun K hK=>?_);refine yaf 36 #[] (by go_simp) ?_;refine (HK.out _).mono ?_;rintro e9 w3 ⟨rfl,hb⟩;refine ⟨_,rfl,?_⟩;go_simp;refine hK _ _ ?_;clear hK K;have HB:=jX (HkW.out.bz.trans (Below.mono hb HkW.out.size));have Bgb:=jX ((hb.block gb (yaa Bgb.out)).trans Bgb.out);have Bgc:=jX ((hb.block gc (yaa Bgc.out)).trans Bgc.out);clear hb;iterate 2 (first|(refine gWE (by rfl) ?_;refine ⟨?_,?_,fun K hK=>?_⟩;rotate_left;(go_simp;try rfl);go_simp;refine hK _ _ ?_;clear hK K)|(refine gWS (by rfl) (fun K hK=>?_);go_simp;refine hK _ _ ?_;clear hK K))
    refine gWE (by rfl) ⟨.agg X,yad _ _ ⟨gc,0,none⟩ _ rfl rfl (HLr.out _ _ Bgc.out),fun K hK=>?_⟩;go_simp;refine hK _ _ ?_;clear hK K;refine gWC (by rfl) (fun K hK=>?_);refine yaf 51 #[.agg X] (by go_simp) ?_;refine (HF.out _).mono ?_;rintro e9 w4 ⟨rfl,hb⟩;refine ⟨_,rfl,?_⟩;go_simp;refine hK _ _ ?_;clear hK K;have HB:=jX (HB.out.trans (Below.mono hb HB.out.size));have Bgb:=jX ((hb.block gb (yaa Bgb.out)).trans Bgb.out);clear hb HF;iterate 4 (first|(refine gWE (by rfl) ?_;refine ⟨?_,?_,fun K hK=>?_⟩;rotate_left;(go_simp;try rfl);go_simp;refine hK _ _ ?_;clear hK K)|(refine gWS (by rfl) (fun K hK=>?_);go_simp;refine hK _ _ ?_;clear hK K))
    refine gWE (by rfl) ⟨.agg C1,yad _ _ ⟨gb,0,none⟩ _ rfl rfl (HLa.out _ _ Bgb.out),fun K hK=>?_⟩;go_simp;refine hK _ _ ?_;clear hK K;refine gWC (by rfl) (fun K hK=>?_);refine yaf 37 #[.agg C1] (by go_simp) ?_;refine (HA.out _).mono ?_;rintro e9 w5 ⟨rfl,hk⟩;refine ⟨_,rfl,?_⟩;go_simp;refine hK _ _ ?_;clear hK K;have hb:=hk.bz;have HB:=jX (HB.out.trans (Below.mono hb HB.out.size));have Bgb:=jX ((hb.block gb (yaa Bgb.out)).trans Bgb.out);clear hb hk HA;iterate 4 (first|(refine gWE (by rfl) ?_;refine ⟨?_,?_,fun K hK=>?_⟩;rotate_left;(go_simp;try rfl);go_simp;refine hK _ _ ?_;clear hK K)|(refine gWS (by rfl) (fun K hK=>?_);go_simp;refine hK _ _ ?_;clear hK K))
    refine gWE (by rfl) ⟨.agg C2,yad _ _ ⟨gb,4,none⟩ _ rfl rfl (HLb.out _ _ Bgb.out),fun K hK=>?_⟩;go_simp;refine hK _ _ ?_;clear hK K;refine gWC (by rfl) (fun K hK=>?_);refine yaf 37 #[.agg C2] (by go_simp) ?_;refine (HH.out _).mono ?_;rintro e9 w6 ⟨rfl,hk⟩;refine ⟨_,rfl,?_⟩;go_simp;refine hK _ _ ?_;clear hK K;have hb:=hk.bz;have HB:=jX (HB.out.trans (Below.mono hb HB.out.size));clear hb hk HH;iterate 2 (first|(refine gWE (by rfl) ?_;refine ⟨?_,?_,fun K hK=>?_⟩;rotate_left;(go_simp;try rfl);go_simp;refine hK _ _ ?_;clear hK K)|(refine gWS (by rfl) (fun K hK=>?_);go_simp;refine hK _ _ ?_;clear hK K))
    go_wp2_with fail;refine (HK.out _).mono ?_;rintro e w7 ⟨rfl,hb⟩;dsimp only;have HB:=jX (HB.out.trans (Below.mono hb HB.out.size));clear hb;go_wp2_with fail;go_ret
    exact ⟨rfl,HB.out⟩
   | true =>
    obtain⟨q,hq,hhC⟩:=RawF.ok_some hok;rw [hok,hhC] at HH;rw [hhC] at HLb;clear hok hhC;have Ht:=jX ht;have HMn:=jX (QMin_c p q (hp.mono (by decide)) (hq.mono (by decide)));have HMx:=jX (QMax_c p q (hp.mono (by decide)) (hq.mono (by decide)));have Ha:=jX ((mn_fit hp hq).mono (show 8≤24 by decide))
    have Hb:=jX ((mx_fit hp hq).mono (show 8≤24 by decide))
    have Hab:=jX (mn_mx p q);rw [yaw,yaw,yaw] at HMn HMx;generalize mnQ p q=a at *;generalize mxQ p q=b at *;clear ht hp hq;generalize two f h=T2 at *;go_enter func10,ntmps10
    go_upto_region 1 with (fail)
    obtain⟨W,ga,gb,gc,hW,ega,egb,egc,Bga,Bgb,Bgc,hga,hgb,hgc,hgW,HkW⟩:=al3h w (.cells (fvcells (.slice pa ev.ps.length pc) ev).toArray 80) (.cells T2 91) (.cells (kC t) 30);rw [← hW];try rw [egc]
    try rw [egb]
    try rw [ega]
    clear hW ega egb egc;have HP:=jX (HP.out.later HkW.out.bz);refine wp_region_lit ?_;refine wpList_plain (by rfl) (fun K hK=>?_);refine yaf 36 #[] (by go_simp) ?_;refine (HK.out _).mono ?_;rintro e9 w3 ⟨rfl,hb⟩;refine ⟨_,rfl,?_⟩;go_simp;refine hK _ _ ?_;clear hK K;have HB:=jX (HkW.out.bz.trans (Below.mono hb HkW.out.size));have HP:=jX (HP.out.later hb);have Bga:=jX ((hb.block ga (yaa Bga.out)).trans Bga.out);have Bgb:=jX ((hb.block gb (yaa Bgb.out)).trans Bgb.out);have Bgc:=jX ((hb.block gc (yaa Bgc.out)).trans Bgc.out);clear hb HK;iterate 2 (first|(refine gWE (by rfl) ?_;refine ⟨?_,?_,fun K hK=>?_⟩;rotate_left;(go_simp;try rfl);go_simp;refine hK _ _ ?_;clear hK K)|(refine gWS (by rfl) (fun K hK=>?_);go_simp;refine hK _ _ ?_;clear hK K))
    refine gWE (by rfl) ⟨.agg (kC t),yad _ _ ⟨gc,0,none⟩ _ rfl rfl (HLr.out _ _ Bgc.out),fun K hK=>?_⟩;go_simp;refine hK _ _ ?_;clear hK K;refine gWC (by rfl) (fun K hK=>?_);refine yaf 51 #[.agg (kC t)] (by go_simp) ?_;refine (HF.out _).mono ?_;rintro e9 w4 ⟨rfl,hb⟩;refine ⟨_,rfl,?_⟩;go_simp;refine hK _ _ ?_;clear hK K;have HB:=jX (HB.out.trans (Below.mono hb HB.out.size));have HP:=jX (HP.out.later hb);have Bga:=jX ((hb.block ga (yaa Bga.out)).trans Bga.out);have Bgb:=jX ((hb.block gb (yaa Bgb.out)).trans Bgb.out);have Bgc:=jX ((hb.block gc (yaa Bgc.out)).trans Bgc.out);clear hb HF;iterate 4 (first|(refine gWE (by rfl) ?_;refine ⟨?_,?_,fun K hK=>?_⟩;rotate_left;(go_simp;try rfl);go_simp;refine hK _ _ ?_;clear hK K)|(refine gWS (by rfl) (fun K hK=>?_);go_simp;refine hK _ _ ?_;clear hK K))
    refine gWE (by rfl) ⟨.agg (rC p),yad _ _ ⟨gb,0,none⟩ _ rfl rfl (HLa.out _ _ Bgb.out),fun K hK=>?_⟩;go_simp;refine hK _ _ ?_;clear hK K;refine gWC (by rfl) (fun K hK=>?_);refine yaf 37 #[.agg (rC p)] (by go_simp) ?_;refine (HA.out _).mono ?_;rintro e9 w5 ⟨rfl,hk⟩;refine ⟨_,rfl,?_⟩;go_simp;refine hK _ _ ?_;clear hK K;have hb:=hk.bz;have HB:=jX (HB.out.trans (Below.mono hb HB.out.size));have HP:=jX (HP.out.later hb);have Bga:=jX ((hb.block ga (yaa Bga.out)).trans Bga.out);have Bgb:=jX ((hb.block gb (yaa Bgb.out)).trans Bgb.out);have Bgc:=jX ((hb.block gc (yaa Bgc.out)).trans Bgc.out);clear hb hk HA;iterate 4 (first|(refine gWE (by rfl) ?_;refine ⟨?_,?_,fun K hK=>?_⟩;rotate_left;(go_simp;try rfl);go_simp;refine hK _ _ ?_;clear hK K)|(refine gWS (by rfl) (fun K hK=>?_);go_simp;refine hK _ _ ?_;clear hK K))
    refine gWE (by rfl) ⟨.agg (rC q),yad _ _ ⟨gb,4,none⟩ _ rfl rfl (HLb.out _ _ Bgb.out),fun K hK=>?_⟩;go_simp;refine hK _ _ ?_;clear hK K;refine gWC (by rfl) (fun K hK=>?_);refine yaf 37 #[.agg (rC q)] (by go_simp) ?_;refine (HH.out _).mono ?_;rintro e9 w6 ⟨rfl,hk⟩;refine ⟨_,rfl,?_⟩;go_simp;refine hK _ _ ?_;clear hK K;have hb:=hk.bz;have HB:=jX (HB.out.trans (Below.mono hb HB.out.size));have HP:=jX (HP.out.later hb);have Bga:=jX ((hb.block ga (yaa Bga.out)).trans Bga.out);have Bgb:=jX ((hb.block gb (yaa Bgb.out)).trans Bgb.out);have Bgc:=jX ((hb.block gc (yaa Bgc.out)).trans Bgc.out);clear hb hk HH;iterate 2 (first|(refine gWE (by rfl) ?_;refine ⟨?_,?_,fun K hK=>?_⟩;rotate_left;(go_simp;try rfl);go_simp;refine hK _ _ ?_;clear hK K)|(refine gWS (by rfl) (fun K hK=>?_);go_simp;refine hK _ _ ?_;clear hK K))
    go_upto_region 3 with (fail)
    refine wp_region_lit ?_;refine yab (v:=.agg (fvcells (.slice pa ev.ps.length pc) ev).toArray) (by rfl) (yad _ _ ⟨ga,0,none⟩ _ rfl rfl (load_fv _ ga 0 _ ev (fun j v hj=>by rw [Nat.zero_add,yac Bga.out];exact (List.getElem?_toArray ..).trans hj))) (fun K hK=>?_);go_simp;refine hK _ _ ?_;clear hK K;obtain⟨w7,gs,e1,e2,bgs,hgs,_,hk5⟩:=al1 w6 (.cells (fvcells (.slice pa ev.ps.length pc) ev).toArray 80);refine yam (v:=.slice (some ⟨w6.heap.size,0,none⟩) 1 1) (w':=w6.alloc (.cells (fvcells (.slice pa ev.ps.length pc) ev).toArray 80)) (by rfl) (yaT 60 1 #[(0,.tmp 32)] #[(0,.agg (fvcells (.slice pa ev.ps.length pc) ev).toArray)] _ rfl (by simp only [List.map_toArray,List.map_cons,List.map_nil];rfl) (build1_ev _ _ _ _ _)) (fun K hK=>?_);rw [← e1,e2];clear e1;go_simp;refine hK _ _ ?_;clear hK K;have HS:=jX (Steps_one (evs_one bgs (HP.out.later hk5.bz)));refine wpList_plain (by rfl) (fun K hK=>?_);refine yaf 38 #[.slice (some ⟨gs,0,none⟩) 1 1] (by go_simp) ?_;refine (HS.out).mono ?_;rintro e9 w8 ⟨gy,oy,cy,da,dn,rfl,hgy,qd,hld,hb⟩;refine ⟨_,rfl,?_⟩;go_simp;refine hK _ _ ?_;clear hK K;have hb:=Below.trans hk5.bz (Below.mono hb hk5.size);have HB:=jX (HB.out.trans (Below.mono hb HB.out.size));have Bgb:=jX ((hb.block gb (yaa Bgb.out)).trans Bgb.out);have Bgc:=jX ((hb.block gc (yaa Bgc.out)).trans Bgc.out);have HL:=jX hld;clear hb hk5 e2 bgs hgs HS HP Bga hld;refine' yab (v:=_) (by rfl) (?hsa) (fun K hK=>?ksa)
    case hsa=>(go_simp;try rfl)
    go_simp;refine hK _ _ ?_;clear hK K;refine' yab (v:=_) (by rfl) (?hsb) (fun K hK=>?ksb)
    case hsb=>(go_simp;try rfl)
    go_simp;refine hK _ _ ?_;clear hK K;refine' yab (v:=_) (by rfl) (?hsc) (fun K hK=>?ksc)
    case hsc=>(go_simp;try rfl)
    go_simp;refine hK _ _ ?_;clear hK K;clear qd hgy;go_upto_region 4 with (fail)
    refine yaz 12 [(8,28),(9,28)] (fun _=>.cells #[.bool false,.string ⟨#[]⟩,.bool false,.string ⟨#[]⟩] 28) (by kernel_rfl) (by kernel_rfl) (by kernel_rfl) (fun t ht ev w o ho=>by simp at ht;subst ht;exact ycj ev w o ho) ?_;intro U hU;have kgb:=yag (hU.heap Bgb.out (by simp));have L1:∀ m:KW U,(loadVar 28 ⟨gb,0,none⟩).run prog (Wk U m) = .ok (.agg (rC p)) (Wk U m):=fun m=>HLa.out _ _ (m.k.heap (hU.heap Bgb.out (by simp)) (by simp));have L2:∀ m:KW U,(loadVar 28 ⟨gb,4,none⟩).run prog (Wk U m) = .ok (.agg (rC q)) (Wk U m):=fun m=>HLb.out _ _ (m.k.heap (hU.heap Bgb.out (by simp)) (by simp));have Q1:Hid (∀ m:KW U,Calls prog 57 #[.agg (rC p),.agg (rC q)] (Wk U m) fun e w'=>e = .returned (.agg (rC a))∧∃ m,w'=Wk U m):=fun m=>qk m (HMn.out _);have Q2:Hid (∀ m:KW U,Calls prog 58 #[.agg (rC p),.agg (rC q)] (Wk U m) fun e w'=>e = .returned (.agg (rC b))∧∃ m,w'=Wk U m):=fun m=>qk m (HMx.out _);simp only [List.map_cons,List.map_nil,unal,isAl,if_true,if_false,Bool.false_eq_true,List.take_succ_cons,List.take_zero]
    repeat (first
     | go_big_quiet_skip
     | (go_big_quiet_want;first
      | (refine yan _ _ _ (.agg (rC p)) rfl rfl (by rintro _ ⟨m,rfl⟩;exact L1 m) ?_;go_simp;go_big_quiet_on)|(refine yan _ _ _ (.agg (rC q)) rfl rfl (by rintro _ ⟨m,rfl⟩;exact L2 m) ?_;go_simp;go_big_quiet_on)
      | (go_big_quiet_op;first|go_big_quiet_on|go_big_quiet_call (first
       | (go_at_call 57;with_reducible exact (Q1).out _)|(go_at_call 58;with_reducible exact (Q2).out _)))))
    refine wpQuiet_nil ?_;intro P hp1 hp2 w9 hk9 hz;have bg1:=hz (8,28) (by simp);have bg2:=hz (9,28) (by simp);have hg1:=hp1 8 (by simp);have hg2:=hp1 9 (by simp);have n12:P 8≠P 9:=fun h=>absurd (hp2 8 (by simp) 9 (by simp) h) (by decide);simp only [List.map_cons,List.map_nil,pl,List.drop_succ_cons,List.drop_zero];dsimp only at bg1 bg2;generalize P 8=gp at *;generalize P 9=gq at *;clear hz hp1 hp2 hU kgb L1 L2 Q1 Q2 HMn HMx U P HLa HLb;have hgp:=yaa bg1;refine yah (by rfl) _ _ _ rfl gp (rC a) rfl rfl _ _ bg1 (by exact q_size) (by rfl) (ycs _) (fun K hK=>?_);obtain⟨wa,ea,ba,ka⟩:=yai (cs:=rC a) bg1;rw [ea];go_simp;refine hK _ _ ?_;clear hK K ea;have bg2:=ka.heap bg2 (by simp;exact Ne.symm n12);refine yah (by rfl) _ _ _ rfl gq (rC b) rfl rfl _ _ bg2 (by exact q_size) (by rfl) (ycs _) (fun K hK=>?_);obtain⟨wb,eb,bb,kb⟩:=yai (cs:=rC b) bg2;rw [eb];go_simp;refine hK _ _ ?_;clear hK K eb;have hbb:=(show Keep [] w8 wb from (hk9.trans ka (by simp;exact hg1)).trans kb (by simp;exact hg2)).bz
    have Bgp:=jX (kb.heap ba (by simp;exact n12));have Bgq:=jX bb;have HB:=jX (HB.out.trans (Below.mono hbb HB.out.size));have HL:=jX (HL.out.grow hbb);have Bgc:=jX ((hbb.block gc (yaa Bgc.out)).trans Bgc.out);clear hbb ka kb ba bb bg1 bg2 hk9 hg1 hg2 n12 hgp Bgb;have HN:=jX (evD_norm ev);have hsm:=evD_sm ev;have hsm8:∀ i∈evD ev,SmI 8 i:=fun i hi=>(hsm i hi).mono (by decide);have hle:(swpK a b (evD ev)).length≤10000:=le10 (evD_few ev).swp (yaq _ _ _) (by decide);have C1:=jX (fun u v (h:Ls u [(v,evD ev)])=>h.sweep (k0:=5) (by decide) hsm Ha.out Hb.out Hab.out hle);have C2:=jX (fun u v (h:Ls u [(v,evD ev)])=>h.rsweep (k0:=5) (by decide) hsm Ha.out Hb.out Hab.out hle);have hlaw:=swp_law (k:=8) (by decide) Ha.out Hb.out Hab.out HN.out hsm8 Ht.out;have N1:=jX (QNeg_c a);have N2:=jX (QNeg_c b);have hS1:=ydp Ht.out (by decide) Ha.out.neg;have hS2:=ydp Ht.out (by decide) Hb.out.neg
    have hle2:mvK (-b) t≤mvK (-a) t:=by
     rw [K.le_def,ybA Ht.out (by decide) Ha.out.neg,ybA Ht.out (by decide) Hb.out.neg];exact fun hlt=>mvQ_mono t.2.1.nn (by have:=Hab.out;grind) hlt
    have C3:=jX (fun u v (h:Ls u [(v,swpK a b (evD ev))])=>h.cont (List.mem_singleton.2 rfl) t);have C4:=jX (fun u v x (h:Ls u [(v,evD ev),(x,[(⟨⟨mvK (-b) t,false⟩,⟨mvK (-a) t,true⟩⟩:Iv K)])])=>h.over (List.mem_cons_self ..) (List.mem_cons_of_mem _ (List.mem_cons_self ..)));rw [hlaw] at C3;rw [show kv t = .agg (kC t) from rfl] at C3
    rw [yaw,yaw] at N1 N2;have HS1:=jX hS1;have HS2:=jX hS2;clear hS1 hS2;generalize decide (combK 2 (evD ev) [(⟨⟨mvK (-b) t,false⟩,⟨mvK (-a) t,true⟩⟩:Iv K)]≠[])=r at *;clear hlaw hsm hsm8 hle HN Ha Hb Hab Ht;generalize evD ev=D at *;generalize swpK a b D=E at *;have HBd:=jX (iv_b01' (mvK (-b) t) (mvK (-a) t));rw [show kv (mvK (-b) t) = .agg (kC (mvK (-b) t)) from rfl,show kv (mvK (-a) t) = .agg (kC (mvK (-a) t)) from rfl] at HBd
    generalize mvK (-b) t=lo at *;generalize mvK (-a) t=hi at *
    have HLi:Hid (∀ u:World,∃ u2 g,u.alloc (.cells (iC ⟨⟨lo,false⟩,⟨hi,true⟩⟩) 32)=u2∧u.heap.size=g∧Keep [] u u2∧Ls u2 [(.slice (some ⟨g,0,none⟩) 1 1,[(⟨⟨lo,false⟩,⟨hi,true⟩⟩:Iv K)])]):=jX (fun u=>by
     have hn:Norm [(⟨⟨lo,false⟩,⟨hi,true⟩⟩:Iv K)]:=by
      refine ⟨?_,trivial⟩;rw [Bd.lt_def];by_cases he:lo=hi
      ·exact .inr ⟨he,rfl,rfl⟩
      exact .inl (by grind)
     obtain⟨u2,g,e1,e2,_,k,hx⟩:=IvR.single (⟨⟨lo,false⟩,⟨hi,true⟩⟩:Iv K) u
     exact ⟨u2,g,e1,e2,k,(Ls.nil _).cons hx hn (by simp)⟩)
    clear hle2;obtain⟨I,hI⟩:∃ I:Iv K,(⟨⟨lo,false⟩,⟨hi,true⟩⟩:Iv K)=I:=⟨_,rfl⟩;rw [hI] at HBd HLi C4;clear hI;generalize rC (-a)=NA at *;generalize rC (-b)=NB at *;generalize kC lo=TL at *;generalize kC hi=TH at *;generalize kC t=T at *;go_upto_region 5 with (fail)
    refine wp_region_lit ?_;refine' yab (v:=_) (by rfl) (?hua) (fun K hK=>?kua)
    case hua=>(go_simp;try rfl)
    go_simp;refine hK _ _ ?_;clear hK K;refine yab (v:=.agg (rC a)) (by rfl) (yad _ _ ⟨gp,0,none⟩ _ rfl rfl (ybu Bgp.out)) (fun K hK=>?_);go_simp;refine hK _ _ ?_;clear hK K;refine yab (v:=.agg (rC b)) (by rfl) (yad _ _ ⟨gq,0,none⟩ _ rfl rfl (ybu Bgq.out)) (fun K hK=>?_);go_simp;refine hK _ _ ?_;clear hK K;refine wpList_plain (by rfl) (fun K hK=>?_);refine yaf 59 #[.slice da D.length dn,.agg (rC a),.agg (rC b)] (by go_simp) ?_;refine (C1.out _ _ HL.out).mono ?_;rintro e9 wc ⟨a1,c1,rfl,hb,hl⟩;refine ⟨_,rfl,?_⟩;go_simp;refine hK _ _ ?_;clear hK K;have HB:=jX (HB.out.trans (Below.mono hb HB.out.size));have HL:=jX (HL.out.grow hb);have Bgc:=jX ((hb.block gc (yaa Bgc.out)).trans Bgc.out);have Bgp:=jX ((hb.block gp (yaa Bgp.out)).trans Bgp.out);have Bgq:=jX ((hb.block gq (yaa Bgq.out)).trans Bgq.out);have HE:=jX hl;clear hb hl C1;go_upto_region 6 with (fail)
    have hgc:=yaa Bgc.out;have hgp:=yaa Bgp.out;have hgq:=yaa Bgq.out;refine yao (S:=fun u=>Below wc.heap.size wc u) 10 (by kernel_rfl) (by kernel_rfl) (fun _ _ d _ _ h=>by cases d<;>exact h) ?_;have hS0:=(Keep.drew [] wc).bz;generalize World.drew wc=u at *;refine jG (v:=.agg T) 0 hS0 (fun w hw=>yad _ _ ⟨gc,0,none⟩ _ rfl rfl (HLr.out _ _ ((hw.block gc hgc).trans Bgc.out))) (fun K hK=>?_);go_simp;refine hK _ ?_;clear hK K;refine jG (v:=.agg (rC b)) 1 hS0 (fun w hw=>yad _ _ ⟨gq,0,none⟩ _ rfl rfl (ybu ((hw.block gq hgq).trans Bgq.out))) (fun K hK=>?_);go_simp;refine hK _ ?_;clear hK K;refine jG (v:=.agg T) 4 hS0 (fun w hw=>yad _ _ ⟨gc,0,none⟩ _ rfl rfl (HLr.out _ _ ((hw.block gc hgc).trans Bgc.out))) (fun K hK=>?_);go_simp;refine hK _ ?_;clear hK K;refine jG (v:=.agg (rC a)) 5 hS0 (fun w hw=>yad _ _ ⟨gp,0,none⟩ _ rfl rfl (ybu ((hw.block gp hgp).trans Bgp.out))) (fun K hK=>?_);go_simp;refine hK _ ?_;clear hK K;refine jP 2 (fun K hK=>?_);refine yaf 60 #[.agg (rC b)] (by go_simp) ?_;refine (N2.out _).mono ?_;rintro e u2 ⟨rfl,hb⟩;have hb:=hb.bz;have hS0:=hS0.trans (Below.mono hb hS0.size);refine ⟨_,rfl,?_⟩;go_simp;refine hK _ _ hS0 ?_;clear hK K hb;refine jP 3 (fun K hK=>?_);refine yaf 54 #[.agg T,.agg NB] (by go_simp) ?_;refine (HS2.out _).mono ?_;rintro e u3 ⟨rfl,hb⟩;have hb:=hb.bz;have hS0:=hS0.trans (Below.mono hb hS0.size);refine ⟨_,rfl,?_⟩;go_simp;refine hK _ _ hS0 ?_;clear hK K hb;refine jP 6 (fun K hK=>?_);refine yaf 60 #[.agg (rC a)] (by go_simp) ?_;refine (N1.out _).mono ?_;rintro e u4 ⟨rfl,hb⟩;have hb:=hb.bz;have hS0:=hS0.trans (Below.mono hb hS0.size);refine ⟨_,rfl,?_⟩;go_simp;refine hK _ _ hS0 ?_;clear hK K hb;refine jP 7 (fun K hK=>?_);refine yaf 54 #[.agg T,.agg NA] (by go_simp) ?_;refine (HS1.out _).mono ?_;rintro e u5 ⟨rfl,hb⟩;have hb:=hb.bz;have hS0:=hS0.trans (Below.mono hb hS0.size);refine ⟨_,rfl,?_⟩;go_simp;refine hK _ _ hS0 ?_;clear hK K hb;refine yhq (v:=iv I) 8 (by rfl) (by decide) (by kernel_rfl) (by kernel_rfl) (by rfl) hS0 (fun w hw=>yas 32 #[(0,.tmp 55),(1,.tmp 59)] #[(0,.agg TL),(1,.agg TH)] (iC I) rfl (by simp only [List.map_toArray,List.map_cons,List.map_nil];rfl) HBd.out) (fun K hK=>?_);go_simp;refine hK _ ?_;clear hK K;refine jP 9 (fun K hK=>?_);refine ybH (.slice (some ⟨u5.heap.size,0,none⟩) 1 1) (u5.alloc (.cells (iC I) 32)) (yaT 22 1 #[(0,.tmp 60)] #[(0,iv I)] _ rfl (by simp only [List.map_toArray,List.map_cons,List.map_nil];rfl) (ybk _ _)) ?_;obtain⟨u6,gl,e3,e4,k3,hl3⟩:=HLi.out u5;rw [e3,e4];have hS0:=hS0.trans (Below.mono k3.bz hS0.size);have Hl3:=jX hl3;clear e3 e4 k3 hl3;go_simp;refine hK _ _ hS0 ?_;clear hK K;refine ⟨by kernel_rfl,?_⟩;simp only [List.drop_succ_cons,List.drop_zero];have HB:=jX (HB.out.trans (Below.mono hS0 HB.out.size));have HL:=jX (HL.out.grow hS0);have HE:=jX (HE.out.grow hS0);have Bgc:=jX ((hS0.block gc hgc).trans Bgc.out);have Bgp:=jX ((hS0.block gp hgp).trans Bgp.out);have Bgq:=jX ((hS0.block gq hgq).trans Bgq.out);clear hS0 HLi HBd HS1 HS2 N1 N2 hgc hgp hgq;go_upto_region 7 with (fail)
    refine wp_region_lit ?_;refine' yab (v:=_) (by rfl) (?hva) (fun K hK=>?kva)
    case hva=>(go_simp;try rfl)
    go_simp;refine hK _ _ ?_;clear hK K;refine' yab (v:=_) (by rfl) (?hvb) (fun K hK=>?kvb)
    case hvb=>(go_simp;try rfl)
    go_simp;refine hK _ _ ?_;clear hK K;refine yab (v:=.agg (rC a)) (by rfl) (yad _ _ ⟨gp,0,none⟩ _ rfl rfl (ybu Bgp.out)) (fun K hK=>?_);go_simp;refine hK _ _ ?_;clear hK K;refine yab (v:=.agg (rC b)) (by rfl) (yad _ _ ⟨gq,0,none⟩ _ rfl rfl (ybu Bgq.out)) (fun K hK=>?_);go_simp;refine hK _ _ ?_;clear hK K;refine wpList_plain (by rfl) (fun K hK=>?_);refine yaf 61 #[.slice da D.length dn,.agg (rC a),.agg (rC b)] (by go_simp) ?_;refine (C2.out _ _ HL.out).mono ?_;rintro e9 wd ⟨a2,c2,rfl,hb,hl,_⟩;refine ⟨_,rfl,?_⟩;go_simp;refine hK _ _ ?_;clear hK K;have HB:=jX (HB.out.trans (Below.mono hb HB.out.size));have HE:=jX (HE.out.grow hb);have HL:=jX (HL.out.grow hb);have Hl3:=jX (Hl3.out.grow hb);have Bgc:=jX ((hb.block gc (yaa Bgc.out)).trans Bgc.out);have HE2:=jX hl;clear hb hl C2 Bgp Bgq;refine wpList_plain (by rfl) (fun K hK=>?_);refine yaf 20 #[.slice a1 E.length c1,.slice a2 E.length c2] (by go_simp) ?_;refine (HE.out.peq_t HE2.out).mono ?_;rintro e9 we ⟨rfl,hb⟩;refine ⟨_,rfl,?_⟩;go_simp;refine hK _ _ ?_;clear hK K;have HB:=jX (HB.out.trans (Below.mono hb HB.out.size));have HE:=jX (HE.out.grow hb);have HL:=jX (HL.out.grow hb);have Hl3:=jX (Hl3.out.grow hb);have Bgc:=jX ((hb.block gc (yaa Bgc.out)).trans Bgc.out);clear hb HE2;iterate 2 (first|(refine gWE (by rfl) ?_;refine ⟨?_,?_,fun K hK=>?_⟩;rotate_left;(go_simp;try rfl);go_simp;refine hK _ _ ?_;clear hK K)|(refine gWS (by rfl) (fun K hK=>?_);go_simp;refine hK _ _ ?_;clear hK K))
    refine gWE (by rfl) ⟨.agg T,yad _ _ ⟨gc,0,none⟩ _ rfl rfl (HLr.out _ _ Bgc.out),fun K hK=>?_⟩;go_simp;refine hK _ _ ?_;clear hK K;refine gWC (by rfl) (fun K hK=>?_);refine yaf 56 #[.slice a1 E.length c1,.agg T] (by go_simp) ?_;refine (C3.out _ _ HE.out).mono ?_;rintro e9 wf ⟨rfl,hb⟩;refine ⟨_,rfl,?_⟩;go_simp;refine hK _ _ ?_;clear hK K;have HB:=jX (HB.out.trans (Below.mono hb HB.out.size));have HL:=jX (HL.out.grow hb);have Hl3:=jX (Hl3.out.grow hb);clear hb HE Bgc HLr C3;iterate 2 (first|(refine gWE (by rfl) ?_;refine ⟨?_,?_,fun K hK=>?_⟩;rotate_left;(go_simp;try rfl);go_simp;refine hK _ _ ?_;clear hK K)|(refine gWS (by rfl) (fun K hK=>?_);go_simp;refine hK _ _ ?_;clear hK K))
    refine gWC (by rfl) (fun K hK=>?_);refine yaf 62 #[.slice da D.length dn,.slice (some ⟨gl,0,none⟩) 1 1] (by go_simp) ?_;refine (C4.out _ _ _ (HL.out.one Hl3.out)).mono ?_;rintro e9 wg ⟨rfl,hb⟩;refine ⟨_,rfl,?_⟩;go_simp;refine hK _ _ ?_;clear hK K;have HB:=jX (HB.out.trans (Below.mono hb HB.out.size));clear hb HL Hl3 C4;iterate 3 (first|(refine gWE (by rfl) ?_;refine ⟨?_,?_,fun K hK=>?_⟩;rotate_left;(go_simp;try rfl);go_simp;refine hK _ _ ?_;clear hK K)|(refine gWS (by rfl) (fun K hK=>?_);go_simp;refine hK _ _ ?_;clear hK K))
    go_wp2_with fail;go_ret
    exact ⟨rfl,HB.out⟩
end
section
open Classical
theorem OE.ob {α:Type} {enc:α→List Value} {e:TypeId} {k:Nat} {w0 w:World} {v:Value} {l:List α} (h:OE enc e k w0 w v l):OB enc e k w0 w v l:=⟨h.row,h.base,h.keep.bz⟩
end
section
open Classical
def StsW (w0 w:World) (svs:List StV):Prop:=∀ x∈svs,Ls w [(x.v,x.s.d)]∧(TyI w x.v∨Ls w0 [(x.v,x.s.d)])
theorem StsW.grow {w0 w w':World} {vs:List StV} (h:StsW w0 w vs) (hb:Below w.heap.size w w'):StsW w0 w' vs:=fun x hx=>⟨(h x hx).1.grow hb,(h x hx).2.imp (fun t=>t.grow hb) id⟩
theorem StsW.put {w0 w w':World} {A B:List StV} {s t:StV} {g:Nat} (h:StsW w0 w (A++s :: B)) (ht:Ls w [(t.v,t.s.d)]∧TyI w t.v) (hg:∃ cur,w.heap[g]? = some (.cells cur 65)) (h0:w0.heap.size≤g) (hw:Below w0.heap.size w0 w) (hk:Keep [g] w w'):StsW w0 w' (A++t :: B):=by
 have hF:∀ b∈[g],∃ cur,w.heap[b]? = some (.cells cur 65):=fun b hb=>by
  rw [List.mem_singleton] at hb;subst hb;exact hg
 have hw':Below w0.heap.size w0 w':=hw.trans (hk.below (by simp;exact h0) hw.size)
 have old:∀ x∈A++s :: B,Ls w' [(x.v,x.s.d)]∧(TyI w' x.v∨Ls w0 [(x.v,x.s.d)]):=fun x hx=>by
  rcases (h x hx).2 with k|k
  ·have:=(h x hx).1.tyE s_ne k hF hk
   exact ⟨this.1,.inl this.2⟩
  exact ⟨k.grow hw',.inr k⟩
 intro x hx;rcases List.mem_append.1 hx with hx|hx
 ·exact old x (List.mem_append_left _ hx)
 rcases List.mem_cons.1 hx with rfl|hx
 ·have:=ht.1.tyE s_ne ht.2 hF hk
  exact ⟨this.1,.inl this.2⟩
 exact old x (List.mem_append_right _ (List.mem_cons_of_mem _ hx))
theorem OBS.mid {w0 w:World} {po:Option Addr} {n c:Nat} {A B:List StV} {s:StV} (h:OBS w0 w (.slice po n c) (A++s :: B)):∃ g,po=some ⟨g,0,none⟩∧g<w.heap.size∧StAt w g (A.length*13) s∧∃ cur,w.heap[g]? = some (.cells cur 65):=by
 have hn:n=(A++s :: B).length:=by
  obtain⟨po,pc,e⟩:=h.form;injection e
 subst hn;obtain⟨g,o,e,hg,hat⟩:=RowE.elem StV.len h.read A.length (by simp);have hx:(A++s :: B)[A.length]'(by simp)=s:=by simp
 rw [hx] at hat;subst e;rcases h.row.2 with ⟨hv,_⟩|⟨b,cap,cur,hv,_,hb,_⟩
 ·cases hv
 injection hv with e1;injection e1 with e1;injection e1 with e2 e3;subst e2 e3;exact ⟨g,rfl,hg,fun j v hj=>by have:=hat j v hj;rwa [Nat.zero_add] at this,cur,hb⟩
end
end Go.Proofs.YtpgffjjpiafhpaaGreatDoor
