/- Parts of a proof: Vb Mb Vc Vd Ve. -/
import Derived.IntWalk
import Derived.Test.YtejegogbhpmgfaaGreatDoorE31
import Derived.Test.YtejegogbhpmgfaaGreatDoorE24
set_option linter.unusedVariables false
set_option linter.unusedSimpArgs false
set_option maxRecDepth 100000
set_option maxHeartbeats 8000000
namespace Go.Proofs.YtejegogbhpmgfaaGreatDoor
open Go.RowKit Tryz
section
open Classical
structure MP (S:List K) (w0 w:World) (L:List (Value × List (Iv K))):Prop where
 mi:MI w0 w L
 per:∀ p∈L,Per S p.2
 few:S.length≤1000
section
variable {S:List K} {w0 w w':World} {L:List (Value × List (Iv K))}
theorem MP.start (h:S.length≤1000) (w:World):MP S w w []:=⟨MI.start w,by simp,h⟩
theorem MP.move (h:MP S w0 w L) (hk:Keep [] w w'):MP S w0 w' L:=⟨h.mi.move hk,h.per,h.few⟩
theorem MP.add (h:MP S w0 w L) {v:Value} {l:List (Iv K)} (hk:Keep [] w w') (hv:IvR w' v l) (hp:Per S l):MP S w0 w' ((v,l) :: L) :=
 ⟨h.mi.add hk hv,fun p hp'=>by
  rcases List.mem_cons.1 hp' with rfl|hp'
  ·exact hp
  exact h.per p hp',h.few⟩
theorem MP.keep (h:MP S w0 w L):Keep [] w0 w:=h.mi.1
theorem MP.get (h:MP S w0 w L) {v:Value} {l:List (Iv K)} (hm:(v,l)∈L):IvR w v l:=h.mi.2 _ hm
theorem MP.val (h:MP S w0 w L) {v:Value} {l:List (Iv K)} (hm:(v,l)∈L):∀ i∈l,i.f<i.l:=(h.per _ hm).norm.val
theorem MP.len (h:MP S w0 w L) {v:Value} {l:List (Iv K)} (hm:(v,l)∈L):l.length≤2000:=by have:=(h.per _ hm).len;have:=h.few;dsimp only at *;omega
def PerPost (S:List K) (w0:World) (L:List (Value × List (Iv K))) (m:List (Iv K)) (e:Ending) (w':World):Prop:=∃ a c,e = .returned (.slice a m.length c)∧MP S w0 w' ((.slice a m.length c,m) :: L)
theorem ybH (h:MP S w0 w L) {m:List (Iv K)} (hp:Per S m) {f:Nat} {args:Array Value} (hc:Calls prog f args w fun e w'=>∃ v,e = .returned v∧IvR w' v m∧Keep [] w w'):Calls prog f args w (PerPost S w0 L m) :=
 hc.mono fun e w' ⟨v,he,hv,hk⟩=>by
  obtain⟨a,c,rfl,_⟩:=hv.form;exact ⟨a,c,he,h.add hk hv hp⟩
variable {v u:Value} {a b:List (Iv K)}
theorem MP.combP (h:MP S w0 w L) (op:Int) (hv:(v,a)∈L) (hu:(u,b)∈L):Per S (yaz op a b):=yff op (h.per _ hv).pts (h.per _ hu).pts
theorem MP.inter (h:MP S w0 w L) (hv:(v,a)∈L) (hu:(u,b)∈L):Calls prog 71 #[v,u] w (PerPost S w0 L (yaz 2 a b)) :=
 ybH h (h.combP 2 hv hu) (Intersect_p a b (h.val hv) (h.val hu) w v u (h.get hv) (h.get hu) (by have:=h.len hv;omega) (by have:=h.len hu;omega))
theorem MP.comb (h:MP S w0 w L) {op:Int} (hop:op=1∨op=2∨op=3) (hv:(v,a)∈L) (hu:(u,b)∈L):Calls prog 50 #[.int .i64 op,v,u] w (PerPost S w0 L (yaz op a b)) :=
 ybH h (h.combP op hv hu) (yfV op hop a b w v u (h.get hv) (h.get hu) (by have:=h.len hv;omega) (by have:=h.len hu;omega))
theorem MP.rnorm (h:MP S w0 w L) (hv:(v,a)∈L):Calls prog 88 #[v] w (PerPost S w0 L a):=by
 have:=yhm a w v (h.get hv) (by have:=h.len hv;omega);rw [yjl (h.per _ hv).norm] at this;exact ybH h (h.per _ hv) this
def BoolPost (S:List K) (w0:World) (L:List (Value × List (Iv K))) (r:Bool) (e:Ending) (w':World):Prop:=e = .returned (.bool r)∧MP S w0 w' L
theorem ydg (h:MP S w0 w L) {r:Bool} {f:Nat} {args:Array Value} (hc:Calls prog f args w fun e w'=>e = .returned (.bool r)∧Keep [] w w'):Calls prog f args w (BoolPost S w0 L r) :=
 hc.mono fun e w' ⟨he,hk⟩=>⟨he,h.move hk⟩
end
theorem dec2 (a b:Bool):decV 2 a b=(a&&b):=rfl
theorem yeo {l:List SpanA} {S:List K} (h:∀ x∈ptsL (ivsOf l),x∈S):Per S (ydS l):=⟨yfM l,(perOf_per l).pts.mono h⟩
theorem MP.period {S:List K} {w0 w:World} {L:List (Value × List (Iv K))} (h:MP S w0 w L) {l:List SpanA} {sv:Value} (hr:SpQ w0 sv l) (h9:l.length≤9223372036854775807) (hS:∀ x∈ptsL (ivsOf l),x∈S) :
  Calls prog 45 #[sv] w (PerPost S w0 L (ydS l)):=ybH h (yeo hS) (lperiod_c l w sv (hr.later h.keep) h9)
end
def SubL (T D:List (Iv K)):Prop:=∀ x,hasL T x=true→hasL D x=true
section
variable {D T E U G V P:List (Iv K)}
theorem sub_mk (T D:List (Iv K)):SubL (yaz 2 T D) D:=fun x h=>by
 rw [yfb,dec2,Bool.and_eq_true] at h;exact h.2
end
section
open Classical
theorem cmpB_le (a b:Bd K):cmpB a b≤0↔a≤b:=by
 rcases ydu a b with ⟨h,g⟩|⟨h,g⟩|⟨h,g⟩
 ·rw [h];exact ⟨fun h2=>absurd h2 (by decide),fun h2=>by grind⟩
 ·rw [h];exact ⟨fun _=>by grind,fun _=>by decide⟩
 rw [h];exact ⟨fun _=>by grind,fun _=>by decide⟩
theorem yiK (x:K) (o:Bool):prog.built 110 [(0,kv x),(1,.bool o)]=some (bC ⟨x,o⟩):=ycD _ _ _ _ _ _ _ _
theorem yii (i:Iv K) (t:K) (w:World) (g:Nat) (hb:w.heap[g]? = some (.cells (kC t) 36)) :
  Calls prog 104 #[iv i,.pointer (some ⟨g,0,none⟩)] w fun e w'=>e = .returned (.bool (decide (i.f≤⟨t,false⟩∧(⟨t,true⟩:Bd K)≤i.l)))∧Keep [] w w':=by
 have HF:=jX (fun w=>ygt i w);have HL:=jX (fun w=>yir i w);have HC1:=jX (fun w=>yfF i.f ⟨t,false⟩ w);have HC2:=jX (fun w=>yfF ⟨t,true⟩ i.l w);have B1:=jX (yiK t false);have B2:=jX (yiK t true);have hd1:decide (cmpB i.f ⟨t,false⟩≤0)=decide (i.f≤⟨t,false⟩):=by rw [Bool.eq_iff_iff,decide_eq_true_iff,decide_eq_true_iff];exact cmpB_le _ _
 have hd2:decide (cmpB ⟨t,true⟩ i.l≤0)=decide ((⟨t,true⟩:Bd K)≤i.l):=by rw [Bool.eq_iff_iff,decide_eq_true_iff,decide_eq_true_iff];exact cmpB_le _ _
 have hres:decide (i.f≤⟨t,false⟩∧(⟨t,true⟩:Bd K)≤i.l)=(decide (cmpB i.f ⟨t,false⟩≤0)&&decide (cmpB ⟨t,true⟩ i.l≤0)):=by rw [hd1,hd2,Bool.decide_and]
 rw [hres];clear hd1 hd2 hres;generalize cmpB i.f ⟨t,false⟩=n1 at *;generalize cmpB ⟨t,true⟩ i.l=n2 at *;have ho:iv i = .agg (iC i):=rfl;have hk:kv t = .agg (kC t):=rfl;have e1:bv i.f = .agg (bC i.f):=rfl;have e2:bv i.l = .agg (bC i.l):=rfl;have e3:bv ⟨t,false⟩ = .agg (bC ⟨t,false⟩):=rfl;have e4:bv ⟨t,true⟩ = .agg (bC ⟨t,true⟩):=rfl;rw [ho];rw [ho,e1] at HF;rw [ho,e2] at HL;rw [e1,e3] at HC1;rw [e2,e4] at HC2;rw [hk] at B1 B2;clear ho hk e1 e2 e3 e4;by_cases h1:n1≤0
 ·have hd:decide (n1≤0)=true:=decide_eq_true h1
  rw [hd,Bool.true_and];go_enter func104,ntmps104
  go_upto_region 1 with (fail)
  obtain⟨W,ga,hW,ega,Bga,hga,hgW,HkW⟩:=al1h w (.cells (iC i) 49);rw [← hW];try rw [ega]
  clear hW ega;have HLi:=jX ((yaV Bga.out).ld (yab Bga.out));have HLt:=jX (kw_k (HkW.out.heap hb (by simp)));have hiv:iv i = .agg (iC i):=rfl;have hkv:kv t = .agg (kC t):=rfl;rw [hiv] at HLi;rw [hkv] at HLt;clear hiv hkv hb Bga;have Q1:Hid (∀ m:KW W,Calls prog 106 #[.agg (iC i)] (Wk W m) fun e w'=>e = .returned (.agg (bC i.f))∧∃ m,w'=Wk W m):=fun m=>qk m (HF.out _);have Q2:Hid (∀ m:KW W,Calls prog 107 #[.agg (iC i)] (Wk W m) fun e w'=>e = .returned (.agg (bC i.l))∧∃ m,w'=Wk W m):=fun m=>qk m (HL.out _);have Q3:Hid (∀ m:KW W,Calls prog 105 #[.agg (bC i.f),.agg (bC ⟨t,false⟩)] (Wk W m) fun e w'=>e = .returned (.int .i64 n1)∧∃ m,w'=Wk W m):=fun m=>qk m (HC1.out _);have Q4:Hid (∀ m:KW W,Calls prog 105 #[.agg (bC ⟨t,true⟩),.agg (bC i.l)] (Wk W m) fun e w'=>e = .returned (.int .i64 n2)∧∃ m,w'=Wk W m):=fun m=>qk m (HC2.out _);clear HF HL HC1 HC2;generalize iC i=I at *;generalize kC t=T at *;generalize bC i.f=F at *;generalize bC i.l=L at *;generalize bC ⟨t,false⟩=T0 at *;generalize bC ⟨t,true⟩=T1 at *;refine yac (by kernel_rfl) (by kernel_rfl) ?_
  repeat (first
   | go_big_quiet_skip
   | (go_big_quiet_want;first
    | (refine yai _ _ _ (.agg I) rfl rfl (by rintro _ ⟨m,rfl⟩;exact HLi.out m) ?_;go_simp;go_big_quiet_on)|(refine yai _ _ _ (.agg T) rfl rfl (by rintro _ ⟨m,rfl⟩;exact HLt.out m) ?_;go_simp;go_big_quiet_on)|(refine ycq _ _ #[(0,.agg T),(1,.bool false)] (T0) rfl (by simp only [List.map_toArray,List.map_cons,List.map_nil];rfl) B1.out ?_;go_simp;go_big_quiet_on)|(refine ycq _ _ #[(0,.agg T),(1,.bool true)] (T1) rfl (by simp only [List.map_toArray,List.map_cons,List.map_nil];rfl) B2.out ?_;go_simp;go_big_quiet_on)
    | (go_big_quiet_op;first|go_big_quiet_on|go_big_quiet_call (first
     | (go_at_call 106;with_reducible exact (Q1).out _)|(go_at_call 107;with_reducible exact (Q2).out _)|(go_at_call 105;with_reducible exact (Q3).out _)|(go_at_call 105;with_reducible exact (Q4).out _)))))
  refine wpQuiet_nil ?_;rintro w2 ⟨⟨_,hk_w2⟩,rfl⟩;go_wp2_with fail;go_ret
  exact ⟨rfl,HkW.out.tz hk_w2⟩
 have hd:decide (n1≤0)=false:=decide_eq_false h1;rw [hd,Bool.false_and];go_enter func104,ntmps104
 go_upto_region 1 with (fail)
 obtain⟨W,ga,hW,ega,Bga,hga,hgW,HkW⟩:=al1h w (.cells (iC i) 49);rw [← hW];try rw [ega]
 clear hW ega;have HLi:=jX ((yaV Bga.out).ld (yab Bga.out));have HLt:=jX (kw_k (HkW.out.heap hb (by simp)));have hiv:iv i = .agg (iC i):=rfl;have hkv:kv t = .agg (kC t):=rfl;rw [hiv] at HLi;rw [hkv] at HLt;clear hiv hkv hb Bga;have Q1:Hid (∀ m:KW W,Calls prog 106 #[.agg (iC i)] (Wk W m) fun e w'=>e = .returned (.agg (bC i.f))∧∃ m,w'=Wk W m):=fun m=>qk m (HF.out _);have Q2:Hid (∀ m:KW W,Calls prog 107 #[.agg (iC i)] (Wk W m) fun e w'=>e = .returned (.agg (bC i.l))∧∃ m,w'=Wk W m):=fun m=>qk m (HL.out _);have Q3:Hid (∀ m:KW W,Calls prog 105 #[.agg (bC i.f),.agg (bC ⟨t,false⟩)] (Wk W m) fun e w'=>e = .returned (.int .i64 n1)∧∃ m,w'=Wk W m):=fun m=>qk m (HC1.out _);have Q4:Hid (∀ m:KW W,Calls prog 105 #[.agg (bC ⟨t,true⟩),.agg (bC i.l)] (Wk W m) fun e w'=>e = .returned (.int .i64 n2)∧∃ m,w'=Wk W m):=fun m=>qk m (HC2.out _);clear HF HL HC1 HC2;generalize iC i=I at *;generalize kC t=T at *;generalize bC i.f=F at *;generalize bC i.l=L at *;generalize bC ⟨t,false⟩=T0 at *;generalize bC ⟨t,true⟩=T1 at *;refine yac (by kernel_rfl) (by kernel_rfl) ?_
 repeat (first
  | go_big_quiet_skip
  | (go_big_quiet_want;first
   | (refine yai _ _ _ (.agg I) rfl rfl (by rintro _ ⟨m,rfl⟩;exact HLi.out m) ?_;go_simp;go_big_quiet_on)|(refine yai _ _ _ (.agg T) rfl rfl (by rintro _ ⟨m,rfl⟩;exact HLt.out m) ?_;go_simp;go_big_quiet_on)|(refine ycq _ _ #[(0,.agg T),(1,.bool false)] (T0) rfl (by simp only [List.map_toArray,List.map_cons,List.map_nil];rfl) B1.out ?_;go_simp;go_big_quiet_on)|(refine ycq _ _ #[(0,.agg T),(1,.bool true)] (T1) rfl (by simp only [List.map_toArray,List.map_cons,List.map_nil];rfl) B2.out ?_;go_simp;go_big_quiet_on)
   | (go_big_quiet_op;first|go_big_quiet_on|go_big_quiet_call (first
    | (go_at_call 106;with_reducible exact (Q1).out _)|(go_at_call 107;with_reducible exact (Q2).out _)|(go_at_call 105;with_reducible exact (Q3).out _)|(go_at_call 105;with_reducible exact (Q4).out _)))))
 refine wpQuiet_nil ?_;rintro w2 ⟨⟨_,hk_w2⟩,rfl⟩;go_wp2_with fail;go_ret
 exact ⟨rfl,HkW.out.tz hk_w2⟩
theorem any_take {α:Type} (p:α→Bool) (l:List α) (k:Nat) (h:k<l.length) (hno:(l.take k).any p=false):(l.take (k+1)).any p=p l[k]:=by
 rw [List.take_succ_eq_append_getElem h,List.any_append,hno];simp
theorem any_early {α:Type} (p:α→Bool) (l:List α) (k:Nat) (h:(l.take k).any p=true):l.any p=true:=by
 rw [List.any_eq_true] at h ⊢;obtain⟨x,hx,h⟩:=h;exact ⟨x,List.mem_of_mem_take hx,h⟩
theorem index_c (l:List (Iv K)) (t:K) (gt:Nat) (w:World) (hb:w.heap[gt]? = some (.cells (kC t) 36)) (sv:Value) (hr:IvR w sv l) (h9:l.length≤1000000000) :
  Calls prog 143 #[sv,.func (.func 104) #[] #[.pointer (some ⟨gt,0,none⟩)]] w fun e w'=>∃ n:Int,e = .returned (.int .i64 n)∧decide (0≤n)=holds l t∧Keep [] w w':=by
 have HR:=jX hr;have Hb:=jX hb;have HC:=jX (fun i w hb=>yii i t w gt hb);obtain⟨ao,ac,rfl,_⟩:=hr.form;clear hr hb;unfold holds;generalize hP:(fun i:Iv K=>decide (i.f≤⟨t,false⟩∧(⟨t,true⟩:Bd K)≤i.l))=P at *;have HP:=jX hP;clear hP;go_enter func143,ntmps143
 go_wp2_with fail;go_loopw [5,8] (fun _ c wr=>∃ k:Nat,k≤l.length∧c = .int .i64 (k:Int)∧(l.take k).any P=false∧Keep [] w wr) (fun _ c _=>l.length-(intOf c).toNat)
 case atStart=>exact ⟨0,Nat.zero_le _,rfl,rfl,Keep.refl _ _⟩
 case round =>
  obtain⟨k,hk,rfl,hno,hkeep⟩:=hrel;have Hno:=jX hno;have HKr:=jX hkeep;clear hno hkeep;by_cases hlt:k<l.length
  ·obtain⟨g,o,rfl,hg,hat⟩:=IvR.elem (HR.out.later HKr.out) k hlt
   have Hnx:=jX (any_take P l k hlt Hno.out);obtain⟨i,hi⟩:∃ i,l[k]=i:=⟨_,rfl⟩;rw [hi] at Hnx hat;have H1:=jX (HC.out i wr (HKr.out.heap Hb.out (by simp)));obtain⟨p,hp⟩:∃ p,o+k*20=p:=⟨_,rfl⟩;rw [hp] at hat;have HL:=jX (ybE wr g p i hat);have hPi:decide (i.f≤⟨t,false⟩∧(⟨t,true⟩:Bd K)≤i.l)=P i:=by rw [← HP.out]
   have HPi:=jX hPi;rw [hPi] at H1;clear hi hat hPi;have hiv:iv i = .agg (iC i):=rfl;rw [hiv] at H1 HL;clear hiv;generalize P i=r at *;generalize iC i=I at *;go_upto_region 4 with (fail)
   refine wp_region_lit ?_;refine' yad (v:=_) (by rfl) (?ha) (fun K hK=>?ka)
   case ha=>(go_simp;try rfl)
   go_simp;refine hK _ _ ?_;clear hK K;refine' yad (v:=_) (by rfl) (?hb) (fun K hK=>?kb)
   case hb=>(go_simp;try rfl)
   go_simp;refine hK _ _ ?_;clear hK K;refine' yad (v:=_) (by rfl) (?hc) (fun K hK=>?kc)
   case hc=>(go_simp;try rfl)
   go_simp;refine hK _ _ ?_;clear hK K;refine' yad (v:=_) (by rfl) (?hd) (fun K hK=>?kd)
   case hd=>(go_simp;try rfl)
   go_simp;refine hK _ _ ?_;clear hK K;refine yad (v:=.agg I) (by rfl) (yak _ _ ⟨g,p,none⟩ _ rfl rfl HL.out) (fun K hK=>?_);go_simp;refine hK _ _ ?_;clear hK K;refine wpList_plain (by rfl) (fun K hK=>?_);refine yae 104 #[.agg I,.pointer (some ⟨gt,0,none⟩)] (by go_simp) ?_;refine H1.out.mono ?_;rintro e w3 ⟨rfl,hk3⟩;refine ⟨_,rfl,?_⟩;go_simp;refine hK _ _ ?_;clear hK K;have HKx:=jX (HKr.out.tz hk3);clear hk3 H1 HL HPi;cases r with
   | true =>
    go_wp2_with fail;go_ret
    exact ⟨(k:Int),rfl,by rw [any_early P l _ Hnx.out];exact decide_eq_true (by omega),HKx.out⟩
   | false =>
    go_wp2_with fail;go_roundw
    case rel=>exact ⟨k+1,by omega,congrArg (Value.int .i64) (by omega),Hnx.out,HKx.out⟩
    case measure=>simp [intOf];omega
  have hkl:l.take k=l:=List.take_of_length_le (by omega);have HF:Hid (l.any P=false):=by rw [← hkl];exact Hno.out
  clear hkl Hno;go_wp2_with fail;go_ret
  exact ⟨-1,rfl,by rw [HF.out];rfl,HKr.out⟩
theorem contF_c (l:List (Iv K)) (t:K) (gt:Nat) (w:World) (hb:w.heap[gt]? = some (.cells (kC t) 36)) (sv:Value) (hr:IvR w sv l) (h9:l.length≤1000000000) :
  Calls prog 103 #[sv,.func (.func 104) #[] #[.pointer (some ⟨gt,0,none⟩)]] w fun e w'=>e = .returned (.bool (holds l t))∧Keep [] w w':=by
 have H:=jX (index_c l t gt w hb sv hr h9);obtain⟨ao,ac,rfl,_⟩:=hr.form;clear hr hb;go_enter func103,ntmps103
 go_wp2_with fail;refine H.out.mono ?_;rintro e w2 ⟨n,rfl,hn,hk⟩;dsimp only;have HK:=jX hk;clear hk;go_wp2_with fail;go_ret
 exact ⟨rfl,HK.out⟩
theorem yjK (l:List (Iv K)) (t:K) (w:World) (sv:Value) (hr:IvR w sv l) (h9:l.length≤1000000000) :
  Calls prog 65 #[sv,kv t] w fun e w'=>e = .returned (.bool (holds l t))∧Keep [] w w':=by
 have HR:=jX hr;have HC:=jX (fun w gt hb sv hr=>contF_c l t gt w hb sv hr h9);obtain⟨ao,ac,rfl,_⟩:=hr.form;clear hr h9;show Calls prog 65 #[_,.agg (kC t)] w _
 go_enter func65,ntmps65
 go_upto_region 1 with (fail)
 obtain⟨W,ga,hW,ega,Bga,hga,hgW,HkW⟩:=al1h w (.cells (kC t) 36);rw [← hW];try rw [ega]
 clear hW ega;have H:=jX (HC.out W ga Bga.out _ (HR.out.later HkW.out));clear HC;go_wp2_with fail;refine H.out.mono ?_;rintro e w2 ⟨rfl,hk⟩;dsimp only;have HK:=jX (HkW.out.tz hk);clear hk;go_wp2_with fail;go_ret
 exact ⟨rfl,HK.out⟩
end
section
open Go.ChangeShapes Go.WideShapes Go.ChangeAt
theorem ycC {v:Value} {l:List Value} (h:v.cells.toList=l) (hl:l.length≠1):v = .agg l.toArray:=by
 cases v with
 | agg c=>subst h;simp [Value.cells]
 | _=>subst h;exact absurd rfl hl
def InsArg (_:World) (v:Value):Prop:=∃ a:InsA,v=a.v
theorem InsArg_open {H:Type} {enc:TypeId × Value→H} {W:World} {v:Value} {base:Nat} {d:DataW H} {p:List MemPlace} (hv:Value.okWide prog W .any base 26 v)
  (h:∃ m,DataW.trod enc prog W 0 (fun _=>true) true m 26 v.cells.toList=some (d,p)):InsArg W v:=by
 obtain⟨m,hm⟩:=h;obtain⟨a,ha⟩:=ygJ hm;exact ⟨a,ycC ha (by simp)⟩
structure FrA where
 num:Int
 den:Int
 up:Nat
 down:Nat
 hn : -9223372036854775808≤num∧num≤9223372036854775807
 hd : -9223372036854775808≤den∧den≤9223372036854775807
 hu:up≤255
 hw:down≤255
def FrA.v (a:FrA):Value:=.agg #[.int .i64 a.num,.int .i64 a.den,.int .u8 a.up,.int .u8 a.down]
def FrArg (_:World) (v:Value):Prop:=∃ a:FrA,v=a.v
theorem cells_int:prog.cellsOf 3=1:=by kernel_rfl
theorem cells_Frac:prog.cellsOf 61=4:=by kernel_rfl
theorem frac_trod {H:Type} {enc:TypeId × Value→H} {w:World} {base:Nat} {held:Bool} {fuel:Nat} {cs:List Value} {x:DataW H × List MemPlace} (h:DataW.trod enc prog w base (fun _=>true) held fuel 61 cs=some x):∃ a:FrA,cs=[.int .i64 a.num,.int .i64 a.den,.int .u8 a.up,.int .u8 a.down]:=by
 obtain⟨xs,n,_,rfl,hl,hlen,hf⟩:=DataW.trod_struct underlying61 h;rw [cells_Frac] at hl
 match cs,hl with
 | [c0,c1,c2,c3],_ =>
  match xs,hlen with
  | [x0,x1,x2,x3],_ =>
   have h0:DataW.trod enc prog w base (fun _=>true) held n 3 (([c0,c1,c2,c3].drop 0).take (prog.cellsOf 3))=some x0:=hf 0 _ rfl;have h1:DataW.trod enc prog w base (fun _=>true) held n 3 (([c0,c1,c2,c3].drop 1).take (prog.cellsOf 3))=some x1:=hf 1 _ rfl;have h2:DataW.trod enc prog w base (fun _=>true) held n 5 (([c0,c1,c2,c3].drop 2).take (prog.cellsOf 5))=some x2:=hf 2 _ rfl;have h3:DataW.trod enc prog w base (fun _=>true) held n 5 (([c0,c1,c2,c3].drop 3).take (prog.cellsOf 5))=some x3:=hf 3 _ rfl;rw [cells_int] at h0 h1;rw [cells_u8] at h2 h3;obtain⟨n0,e0,_,w0⟩:=DataW.trod_int underlying3 h0;obtain⟨n1,e1,_,w1⟩:=DataW.trod_int underlying3 h1;obtain⟨n2,e2,_,w2⟩:=DataW.trod_int underlying5 h2;obtain⟨n3,e3,_,w3⟩:=DataW.trod_int underlying5 h3;simp at e0 e1 e2 e3;subst e0 e1 e2 e3;have b0:=bounds_i64 w0;have b1:=bounds_i64 w1;have b2:=bounds_u8 w2;have b3:=bounds_u8 w3;refine ⟨⟨n0,n1,n2.toNat,n3.toNat,by omega,by omega,by omega,by omega⟩,?_⟩;simp [Int.toNat_of_nonneg b2.1,Int.toNat_of_nonneg b3.1]
theorem FrArg_open {H:Type} {enc:TypeId × Value→H} {W:World} {v:Value} {base:Nat} {d:DataW H} {p:List MemPlace} (hv:Value.okWide prog W .any base 61 v)
  (h:∃ m,DataW.trod enc prog W 0 (fun _=>true) true m 61 v.cells.toList=some (d,p)):FrArg W v:=by
 obtain⟨m,hm⟩:=h;obtain⟨a,ha⟩:=frac_trod hm;exact ⟨a,ycC ha (by simp)⟩
end
theorem yjz {m:Nat} (h:0<m):magS (m*256)=magS m++⟨#[0]⟩:=by
 apply ByteArray.ext;apply Array.toList_inj.1;rw [ygP,ydI (by omega),Nat.mul_div_cancel _ (by omega),Nat.mul_mod_left];rw [ByteArray.data_append,Array.toList_append,ygP];rfl
theorem yhn {z:Int} (h:z≠0):mgS (z*256)=mgS z++⟨#[0]⟩:=by
 unfold mgS;rw [Int.natAbs_mul];exact yjz (by omega)
theorem sgB_shift {z:Int}:sgB (z*256)=sgB z:=by
 unfold sgB;by_cases h:z<0
 ·have h2:z*256<0:=by omega
  simp [h,h2]
 have h2:¬ z*256<0:=by omega
 simp [h,h2]
theorem al_int (ev:Operand→Value) (w:World) (o:Oper) (ho:o.op = .alloc 32):(execOp ev o).run prog w = .ok (.value (.pointer (some ⟨w.heap.size,0,none⟩))) (w.alloc (.cells #[.bool false,.string ⟨#[]⟩] 32)):=by
 unfold execOp;simp only [ho];go_simp
theorem z_one (b:Bool) (s:ByteArray):(#[.bool b,.string s]:Array Value).all (·.oneCell')=true:=by kernel_rfl
theorem yfJ {n:Int} {k:Nat} (h:n.natAbs<256 ^ 8):(mgS (n*256 ^ k)).size≤8+k:=by
 refine Fit_iff.2 ?_;rw [Int.natAbs_mul,Int.natAbs_pow,Nat.pow_add];exact Nat.mul_lt_mul_of_pos_right h (Nat.pow_pos (by decide))
theorem sgB_up {z:Int} {k:Nat}:sgB (z*256 ^ k)=sgB z:=by
 induction k with
 | zero=>simp
 | succ k ih=>rw [Int.pow_succ,← Int.mul_assoc,sgB_shift,ih]
def FrA.d (a:FrA):Int:=if a.den=0 then 1 else a.den
def FrA.q (a:FrA):Rat:=Rat.divInt (a.num*256 ^ (a.up % 9)) (a.d*256 ^ (a.down % 9))
theorem rat_c (a:FrA) (w:World):Calls prog 84 #[a.v] w fun e w'=>e = .returned (rv a.q)∧Keep [] w w':=by
 have H1:=jX (yiH a.num a.hn.1 a.hn.2);have hd2 : -9223372036854775808≤a.d∧a.d≤9223372036854775807:=by have:=a.hd;unfold FrA.d;split<;>omega
 have hd0:a.d≠0:=by unfold FrA.d;split<;>omega
 have H2:=jX (yiH a.d hd2.1 hd2.2);have hD:a.d=if a.den=0 then 1 else a.den:=rfl
 unfold FrA.v FrA.q;have hn9:a.num.natAbs<256 ^ 8:=by have:=a.hn;omega
 have hd9:a.d.natAbs<256 ^ 8:=by omega
 have hu:=a.hu;have hw:=a.hw;generalize a.num=n at *;generalize a.den=d0 at *;generalize a.up=u at *;generalize a.down=v at *;generalize a.d=d at *;have HD:=jX hD;clear hD;go_enter func84,ntmps84
 go_upto_region 1 with (fail)
 obtain⟨W,ga,gb,hW,ega,egb,Bga,Bgb,hga,hgb,hgW,HkW⟩:=al2h w (.cells #[.int .i64 n,.int .i64 d0,.int .u8 u,.int .u8 v] 61) (.cells #[.bool false,.string ⟨#[]⟩,.bool false,.string ⟨#[]⟩] 34);rw [← hW];try rw [egb]
 try rw [ega]
 clear hW ega egb;have pga:=yaa Bga.out;have fga:=yaf Bga.out;have hz:(d0 == 0)=decide (d0=0):=rfl;go_upto_if 11 with (fail)
 go_cut [3] (fun zv wx=>wx=W∧zv = .int .i64 d)
 case first =>
  by_cases h0:d0=0
  ·have hb:(d0 == 0)=true:=by simp [h0]
   have hdd:d=1:=by rw [HD.out,if_pos h0]
   subst h0 hdd;go_wp2_with fail;go_meet
   exact ⟨rfl,rfl⟩
  have hb:(d0 == 0)=false:=by simp [h0]
  have hdd:d=d0:=by rw [HD.out,if_neg h0]
  subst hdd;go_wp2_with fail;go_meet
  exact ⟨rfl,rfl⟩
 case rest =>
  obtain⟨rfl,rfl⟩:=hcut;rename World=>W;clear hz fga pga;have pga:=yaa Bga.out;go_upto_region 4 with (fail)
  refine wp_region_lit ?_;refine' yad (v:=_) (by rfl) (?ha) (fun K hK=>?ka)
  case ha=>(go_simp;try rfl)
  go_simp;refine hK _ _ ?_;clear hK K;refine' yad (v:=_) (by rfl) (?hb) (fun K hK=>?kb)
  case hb=>(go_simp;try rfl)
  go_simp;refine hK _ _ ?_;clear hK K;refine wpList_plain (by rfl) (fun K hK=>?_);refine yae 127 #[.int .i64 n] (by go_simp) ?_;refine (H1.out _).mono ?_;rintro e w2 ⟨rfl,hk2⟩;refine ⟨_,rfl,?_⟩;go_simp;refine hK _ _ ?_;clear hK K;refine' yad (v:=_) (by rfl) (?hc) (fun K hK=>?kc)
  case hc=>(go_simp;try rfl)
  go_simp;refine hK _ _ ?_;clear hK K;refine wpList_plain (by rfl) (fun K hK=>?_);refine yae 127 #[.int .i64 d] (by go_simp) ?_;refine (H2.out _).mono ?_;rintro e w3 ⟨rfl,hk3⟩;refine ⟨_,rfl,?_⟩;go_simp;refine hK _ _ ?_;clear hK K pga H1 H2;have HK3:=jX (HkW.out.tz (hk2.tz hk3));have Bga:=jX ((hk2.tz hk3).heap Bga.out (by simp));have Bgb:=jX ((hk2.tz hk3).heap Bgb.out (by simp));clear hk2 hk3;unfold zv;obtain⟨w4,gc,e1,e2,bgc,hgc,_,hk4⟩:=al1 w3 (.cells #[.bool false,.string ⟨#[]⟩] 32);refine yar (v:=.pointer (some ⟨w3.heap.size,0,none⟩)) (w':=w3.alloc (.cells #[.bool false,.string ⟨#[]⟩] 32)) (by rfl) (al_int _ _ _ rfl) (fun K hK=>?_);rw [← e1,e2];clear e1;go_simp;refine hK _ _ ?_;clear hK K;obtain⟨w5,gd,e3,e4,bgd,hgd,_,hk5⟩:=al1 w4 (.cells #[.bool false,.string ⟨#[]⟩] 32);refine yar (v:=.pointer (some ⟨w4.heap.size,0,none⟩)) (w':=w4.alloc (.cells #[.bool false,.string ⟨#[]⟩] 32)) (by rfl) (al_int _ _ _ rfl) (fun K hK=>?_);rw [← e3,e4];clear e3;go_simp;refine hK _ _ ?_;clear hK K;have bgc:=hk5.heap bgc (by simp);have hne:gc≠gd:=by have:=yab bgc;omega
  refine yal (by rfl) _ _ _ rfl gc #[.bool (sgB n),.string (mgS n)] rfl rfl _ _ bgc (by rfl) (by rfl) (z_one _ _) (fun K hK=>?_);obtain⟨w6,e5,b6,k6⟩:=yam (cs:=#[.bool (sgB n),.string (mgS n)]) bgc;rw [e5];go_simp;refine hK _ _ ?_;clear hK K e5;have bgd:=k6.heap bgd (by simp;omega);refine yal (by rfl) _ _ _ rfl gd #[.bool (sgB d),.string (mgS d)] rfl rfl _ _ bgd (by rfl) (by rfl) (z_one _ _) (fun K hK=>?_);obtain⟨w7,e7,b7,k7⟩:=yam (cs:=#[.bool (sgB d),.string (mgS d)]) bgd;rw [e7];go_simp;refine hK _ _ ?_;clear hK K e7;have bgc:=k7.heap b6 (by simp;omega);have k35:=hk4.tz hk5;have k36:Keep [] w3 w6:=k35.trans k6 (by simp;omega);have k37:Keep [] w3 w7:=k36.trans k7 (by simp;omega);have HK7:=jX (HK3.out.tz k37);have hgw:w.heap.size≤gb∧w.heap.size≤gc∧w.heap.size≤gd∧gc≠gd:=⟨by omega,by have:=HK3.out.size;omega,by have:=HK3.out.size;have:=k35.size;have:=hk4.size;omega,hne⟩;have hga3:ga<gc∧gb<gc∧ga<gd∧gb<gd:=by have:=hk4.size;have h1:=yab Bga.out;have h2:=yab Bgb.out;omega
  have Bga:=jX (k37.heap Bga.out (by simp));have Bgb:=jX (k37.heap Bgb.out (by simp));have Bgc:=jX bgc;have Bgd:=jX b7;have Hne:=jX hne;clear hk4 hk5 k6 k7 b6 b7 k35 k36 k37 bgc bgd HK3 hne;go_upto_block 0 with (fail)
  go_cut [6] (fun _ wx=>wx.heap[gc]? = some (.cells #[.bool (sgB n),.string (mgS (n*256 ^ (u % 9)))] 32)∧Keep [gc] w7 wx)
  case first =>
   go_wp2_with fail;go_loopw [6] (fun c wr=>∃ k:Nat,k≤u % 9∧c = .int .u8 (k:Int)∧wr.heap[gc]? = some (.cells #[.bool (sgB n),.string (mgS (n*256 ^ k))] 32)∧Keep [gc] w7 wr) (fun c _=>u-(intOf c).toNat)
   case atStart=>exact ⟨0,Nat.zero_le _,rfl,by simpa using Bgc.out,Keep.refl _ _⟩
   case round =>
    obtain⟨k,hk,rfl,hbc,hkeep⟩:=hrel;have HKr:=jX hkeep;have Bgc:=jX hbc;have Bga:=jX (hkeep.heap Bga.out (by simp;omega));clear hkeep hbc;have pga:=yaa Bga.out;have fga:=yaf Bga.out;have pgc:=yaa Bgc.out;have fgc:=yaf Bgc.out;have lgc:=yab Bgc.out
    have hrem:IntKind.u8.wrap (Int.tmod (u:Int) 9)=((u % 9:Nat):Int):=by
     rw [Int.tmod_eq_emod_of_nonneg (by omega),IntWalk.u8_in _ (by omega)];omega
    by_cases hlt:k<u % 9
    ·have hk1:(k:Int)<(u:Int) % 9:=by omega
     by_cases hn0:n=0
     ·have hm:mgS (n*256 ^ k)=mgS (n*256 ^ (u % 9)):=by rw [hn0,Int.zero_mul,Int.zero_mul]
      have hm0:mgS (n*256 ^ k)=⟨#[]⟩:=by rw [hn0,Int.zero_mul];exact magS_zero
      have HF:=jX (hm ▸ Bgc.out);clear hm hn0;rw [hm0] at pgc;have hs:(ByteArray.toList ⟨#[]⟩).isEmpty=true:=by rw [Lib.toList_data];rfl
      go_wp2_with fail;go_meet
      exact ⟨HF.out,HKr.out⟩
     have hne:mgS (n*256 ^ k)≠⟨#[]⟩:=fun h=>by
      have h2:=ybl.1 (show magS (n*256 ^ k).natAbs=⟨#[]⟩ from h)
      rw [Int.natAbs_mul,Int.natAbs_pow] at h2;have h3:=Nat.pow_pos (n:=k) (show 0<(256:Nat) by omega)
      have h4:=Nat.mul_pos (show 0<n.natAbs by omega) h3
      have:(256:Int).natAbs=256:=rfl;rw [this] at h2;omega
     have Hnx:Hid (mgS (n*256 ^ (k+1))=mgS (n*256 ^ k)++⟨#[0]⟩):=by
      rw [Int.pow_succ,← Int.mul_assoc];exact yhn (fun h=>hne (by rw [h];exact magS_zero))
     have hs:(mgS (n*256 ^ k)).toList.isEmpty=false:=by
      rw [Lib.toList_data,List.isEmpty_eq_false_iff];exact fun h=>hne (ByteArray.ext (Array.toList_inj.1 h))
     have hsz:¬ 9223372036854775807<(mgS (n*256 ^ k)).size+1:=by
      have:=yfJ hn9 (k:=k);omega
     clear hn0 hne;generalize mgS (n*256 ^ k)=s at *;go_wp2_with fail;have b2:=set_same Bgc.out 1 (.string (s++⟨#[0]⟩));have k2:=HKr.out.trans (Keep.setCell [gc] wr gc 1 (.string (s++⟨#[0]⟩)) (by simp)) (by simp);go_roundw
     case rel=>exact ⟨k+1,by omega,congrArg (Value.int .u8) (by omega),by rw [Hnx.out];exact b2,k2⟩
     case measure=>simp [intOf];omega
    obtain rfl:k=u % 9:=by omega
    have hk1:¬ (((u % 9:Nat):Int)<(u:Int) % 9):=by omega
    have HF:=jX Bgc.out;go_wp2_with fail;go_meet
    exact ⟨HF.out,HKr.out⟩
  case rest =>
   obtain⟨hbc,hkc⟩:=hcut;rename World=>w8;have HK8:=jX (HK7.out.trans hkc (by simp;omega));have Bga:=jX (hkc.heap Bga.out (by simp;omega));have Bgb:=jX (hkc.heap Bgb.out (by simp;omega));have Bgd:=jX (hkc.heap Bgd.out (by simp;omega));have Bgc:=jX hbc;clear hbc hkc HK7;generalize hN:n*256 ^ (u % 9)=N at *;go_wp2_with fail;go_loopw [7] (fun c wr=>∃ k:Nat,k≤v % 9∧c = .int .u8 (k:Int)∧wr.heap[gd]? = some (.cells #[.bool (sgB d),.string (mgS (d*256 ^ k))] 32)∧Keep [gd] w8 wr) (fun c _=>v-(intOf c).toNat)
   case atStart=>exact ⟨0,Nat.zero_le _,rfl,by simpa using Bgd.out,Keep.refl _ _⟩
   case round =>
    obtain⟨k,hk,rfl,hbd,hkeep⟩:=hrel;have HKr:=jX hkeep;have Bgd:=jX hbd;have Bga:=jX (hkeep.heap Bga.out (by simp;omega));have Bgb:=jX (hkeep.heap Bgb.out (by simp;omega));have Bgc:=jX (hkeep.heap Bgc.out (by simp;omega));clear hkeep hbd;have pga:=yaa Bga.out;have fga:=yaf Bga.out;have pgd:=yaa Bgd.out;have fgd:=yaf Bgd.out;have lgd:=yab Bgd.out;by_cases hlt:k<v % 9
    ·have hk1:(k:Int)<(v:Int) % 9:=by omega
     have Hnx:Hid (mgS (d*256 ^ (k+1))=mgS (d*256 ^ k)++⟨#[0]⟩):=by
      rw [Int.pow_succ,← Int.mul_assoc];refine yhn (fun h=>?_);rcases Int.mul_eq_zero.1 h with h|h
      ·exact hd0 h
      exact absurd h (by have:=Int.pow_pos (n:=(256:Int)) (m:=k) (by decide);omega)
     have hsz:¬ 9223372036854775807<(mgS (d*256 ^ k)).size+1:=by
      have:=yfJ hd9 (k:=k);omega
     generalize mgS (d*256 ^ k)=s at *;go_wp2_with fail;have b2:=set_same Bgd.out 1 (.string (s++⟨#[0]⟩));have k2:=HKr.out.trans (Keep.setCell [gd] wr gd 1 (.string (s++⟨#[0]⟩)) (by simp)) (by simp);go_roundw
     case rel=>exact ⟨k+1,by omega,congrArg (Value.int .u8) (by omega),by rw [Hnx.out];exact b2,k2⟩
     case measure=>simp [intOf];omega
    obtain rfl:k=v % 9:=by omega
    have hk1:¬ (((v % 9:Nat):Int)<(v:Int) % 9):=by omega
    have pgb:=yaa Bgb.out;have fgb:=yaf Bgb.out;have lgb:=yab Bgb.out;have pgc:=yaa Bgc.out;have HKz:=jX (HK8.out.trans HKr.out (by simp;omega));have sgn:sgB n=sgB N:=by rw [← hN];exact sgB_up.symm
    have sgd:sgB d=sgB (d*256 ^ (v % 9)):=sgB_up.symm;generalize hD:d*256 ^ (v % 9)=D at *
    have hDn:D≠0:=by
     rw [← hD];exact fun h=>(Int.mul_eq_zero.1 h).elim hd0 (fun h=>absurd h (by have:=Int.pow_pos (n:=(256:Int)) (m:=v % 9) (by decide);omega))
    have hfN:Fit 100000000 N:=by
     have h:=yfJ hn9 (k:=u % 9);rw [hN] at h;exact Nat.le_trans h (by omega)
    have hfD:Fit 100000000 D:=by
     have h:=yfJ hd9 (k:=v % 9);rw [hD] at h;exact Nat.le_trans h (by omega)
    have HM:=jX (rmake_c N D hDn hfN hfD);unfold zv rv at HM;have HQ:Hid (Rat.divInt (n*256 ^ (u % 9)) (d*256 ^ (v % 9))=Rat.divInt N D):=by rw [hN,hD];exact jX rfl
    clear hN hD hDn hfN hfD;generalize Rat.divInt N D=q at *;go_wp2_with fail;refine (HM.out _).mono ?_;rintro e w9 ⟨rfl,hk9⟩;dsimp only;have HK9:=jX (HKz.out.tz hk9);have Bgb:=jX (hk9.heap Bgb.out (by simp));clear hk9 pga fga pgb fgb lgb pgc pgd fgd lgd;have pgb:=yaa Bgb.out;have fgb:=yaf Bgb.out;have lgb:=yab Bgb.out;go_wp2_with fail;obtain⟨w10,e10,b10,k10⟩:=st4 (x:=.bool (sgB q.num)) (y:=.string (mgS q.num)) (z:=.bool false) (u:=.string (dnS q.den)) Bgb.out;rw [← e10];clear e10 pgb fgb lgb;have pgb:=yaa b10;refine bodyPost_ret (v:=rv q) ?_ rfl ⟨by rw [HQ.out],HK9.out.trans k10 (by simp;omega)⟩;rw [yag rfl];unfold rv;go_simp
end Go.Proofs.YtejegogbhpmgfaaGreatDoor
