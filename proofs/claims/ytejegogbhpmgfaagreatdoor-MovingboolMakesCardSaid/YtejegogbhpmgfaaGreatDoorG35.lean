/- Parts of a proof: Uh Ui Vc Ky Kz. -/
import Derived.Test.YtejegogbhpmgfaaGreatDoorG34
import Derived.Test.YtejegogbhpmgfaaGreatDoorG16
set_option linter.unusedVariables false
set_option linter.unusedSimpArgs false
set_option maxRecDepth 100000
set_option maxHeartbeats 8000000
namespace Go.Proofs.YtejegogbhpmgfaaGreatDoor
open Go.RowKit Tryz
section
open Classical
def MI (w0 w:World) (L:List (Value × List (Iv K))):Prop:=Keep [] w0 w∧∀ p∈L,IvR w p.1 p.2
theorem MI.start (w:World):MI w w []:=⟨Keep.refl _ _,by simp⟩
theorem MI.add {w0 w w':World} {L:List (Value × List (Iv K))} (h:MI w0 w L) {v:Value} {l:List (Iv K)} (hk:Keep [] w w') (hv:IvR w' v l):MI w0 w' ((v,l) :: L) :=
 ⟨h.1.tz hk,fun p hp=>by
  rcases List.mem_cons.1 hp with rfl|hp
  ·exact hv
  exact (h.2 p hp).later hk⟩
theorem MI.move {w0 w w':World} {L:List (Value × List (Iv K))} (h:MI w0 w L) (hk:Keep [] w w'):MI w0 w' L:=⟨h.1.tz hk,fun p hp=>(h.2 p hp).later hk⟩
theorem MI.get {w0 w:World} {L:List (Value × List (Iv K))} (h:MI w0 w L) (v:Value) (l:List (Iv K)) (hm:(v,l)∈L):IvR w v l:=h.2 (v,l) hm
theorem equal_t {l m:List (Iv K)} (he:l=m) (w:World) (sv tv:Value) (hr:IvR w sv l) (hs:IvR w tv m) (h9:l.length≤1000000000) :
  Calls prog 21 #[sv,tv] w fun e w'=>e = .returned (.bool true)∧Keep [] w w':=by
 have:=equal_c l m w sv tv hr hs h9 (by rw [← he];exact h9);rw [decide_eq_true he] at this;exact this
theorem covers_c (a b:List (Iv K)) (ha:∀ i∈a,i.f<i.l) (hb:∀ i∈b,i.f<i.l) (w:World) (sv tv:Value) (hr:IvR w sv a) (hs:IvR w tv b) (h9:a.length≤10000) (h8:b.length≤10000) :
  Calls prog 93 #[sv,tv] w fun e w'=>e = .returned (.bool (decide (yax 3 b a=[])))∧Keep [] w w':=by
 have H:=jX (Minus_p b a hb ha w tv sv hs hr h8 h9);obtain⟨ao,ac,rfl,_⟩:=hr.form;obtain⟨bo,bc,rfl,_⟩:=hs.form;clear hr hs ha hb;go_enter func93,ntmps93
 go_wp2_with fail;refine H.out.mono ?_;rintro e w1 ⟨v,rfl,hv,hk⟩;dsimp only;have HK:=jX hk;obtain⟨vo,vc,rfl,_⟩:=hv.form;obtain⟨r,hr⟩:∃ r,decide (yax 3 b a=[])=r:=⟨_,rfl⟩
 have hd:(((yax 3 b a).length:Int) == 0)=r:=by
  rw [← hr,Bool.eq_iff_iff,beq_iff_eq,decide_eq_true_iff,← List.length_eq_zero_iff];omega
 have HRr:=jX hr;clear hv hk H hr;generalize (yax 3 b a).length=n at *;go_wp2_with fail;go_ret
 exact ⟨by rw [HRr.out];rfl,HK.out⟩
end
section
open Classical
theorem eqT_run (i:Iv K) (w:World):(binOp .eql 49 (iv i) (iv i)).run prog w = .ok (.bool true) w:=by rw [eqlI_run];simp
theorem ygk (i:Iv K) (x:Bd K):hasL [i] x=i.has x:=by rw [yaD,yeg,Bool.or_false]
end
section
open Classical
theorem cmpB_le (a b:Bd K):cmpB a b≤0↔a≤b:=by
 rcases ydN a b with ⟨h,g⟩|⟨h,g⟩|⟨h,g⟩
 ·rw [h];exact ⟨fun h2=>absurd h2 (by decide),fun h2=>by grind⟩
 ·rw [h];exact ⟨fun _=>by grind,fun _=>by decide⟩
 rw [h];exact ⟨fun _=>by grind,fun _=>by decide⟩
theorem yiG (x:K) (o:Bool):prog.built 110 [(0,kv x),(1,.bool o)]=some (bC ⟨x,o⟩):=ycI _ _ _ _ _ _ _ _
theorem yhG (i:Iv K) (t:K) (w:World) (g:Nat) (hb:w.heap[g]? = some (.cells (kC t) 36)) :
  Calls prog 104 #[iv i,.pointer (some ⟨g,0,none⟩)] w fun e w'=>e = .returned (.bool (decide (i.f≤⟨t,false⟩∧(⟨t,true⟩:Bd K)≤i.l)))∧Keep [] w w':=by
 have HF:=jX (fun w=>yfT i w);have HL:=jX (fun w=>yiB i w);have HC1:=jX (fun w=>yfs i.f ⟨t,false⟩ w);have HC2:=jX (fun w=>yfs ⟨t,true⟩ i.l w);have B1:=jX (yiG t false);have B2:=jX (yiG t true);have hd1:decide (cmpB i.f ⟨t,false⟩≤0)=decide (i.f≤⟨t,false⟩):=by rw [Bool.eq_iff_iff,decide_eq_true_iff,decide_eq_true_iff];exact cmpB_le _ _
 have hd2:decide (cmpB ⟨t,true⟩ i.l≤0)=decide ((⟨t,true⟩:Bd K)≤i.l):=by rw [Bool.eq_iff_iff,decide_eq_true_iff,decide_eq_true_iff];exact cmpB_le _ _
 have hres:decide (i.f≤⟨t,false⟩∧(⟨t,true⟩:Bd K)≤i.l)=(decide (cmpB i.f ⟨t,false⟩≤0)&&decide (cmpB ⟨t,true⟩ i.l≤0)):=by rw [hd1,hd2,Bool.decide_and]
 rw [hres];clear hd1 hd2 hres;generalize cmpB i.f ⟨t,false⟩=n1 at *;generalize cmpB ⟨t,true⟩ i.l=n2 at *;have ho:iv i = .agg (iC i):=rfl;have hk:kv t = .agg (kC t):=rfl;have e1:bv i.f = .agg (bC i.f):=rfl;have e2:bv i.l = .agg (bC i.l):=rfl;have e3:bv ⟨t,false⟩ = .agg (bC ⟨t,false⟩):=rfl;have e4:bv ⟨t,true⟩ = .agg (bC ⟨t,true⟩):=rfl;rw [ho];rw [ho,e1] at HF;rw [ho,e2] at HL;rw [e1,e3] at HC1;rw [e2,e4] at HC2;rw [hk] at B1 B2;clear ho hk e1 e2 e3 e4;by_cases h1:n1≤0
 ·have hd:decide (n1≤0)=true:=decide_eq_true h1
  rw [hd,Bool.true_and];go_enter func104,ntmps104
  go_upto_region 1 with (fail)
  obtain⟨W,ga,hW,ega,Bga,hga,hgW,HkW⟩:=al1h w (.cells (iC i) 49);rw [← hW];try rw [ega]
  clear hW ega;have HLi:=jX ((yaW Bga.out).ld (yab Bga.out));have HLt:=jX (kw_k (HkW.out.heap hb (by simp)));have hiv:iv i = .agg (iC i):=rfl;have hkv:kv t = .agg (kC t):=rfl;rw [hiv] at HLi;rw [hkv] at HLt;clear hiv hkv hb Bga;have Q1:Hid (∀ m:KW W,Calls prog 106 #[.agg (iC i)] (Wk W m) fun e w'=>e = .returned (.agg (bC i.f))∧∃ m,w'=Wk W m):=fun m=>qk m (HF.out _);have Q2:Hid (∀ m:KW W,Calls prog 107 #[.agg (iC i)] (Wk W m) fun e w'=>e = .returned (.agg (bC i.l))∧∃ m,w'=Wk W m):=fun m=>qk m (HL.out _);have Q3:Hid (∀ m:KW W,Calls prog 105 #[.agg (bC i.f),.agg (bC ⟨t,false⟩)] (Wk W m) fun e w'=>e = .returned (.int .i64 n1)∧∃ m,w'=Wk W m):=fun m=>qk m (HC1.out _);have Q4:Hid (∀ m:KW W,Calls prog 105 #[.agg (bC ⟨t,true⟩),.agg (bC i.l)] (Wk W m) fun e w'=>e = .returned (.int .i64 n2)∧∃ m,w'=Wk W m):=fun m=>qk m (HC2.out _);clear HF HL HC1 HC2;generalize iC i=I at *;generalize kC t=T at *;generalize bC i.f=F at *;generalize bC i.l=L at *;generalize bC ⟨t,false⟩=T0 at *;generalize bC ⟨t,true⟩=T1 at *;refine yac (by kernel_rfl) (by kernel_rfl) ?_
  repeat (first
   | go_big_quiet_skip
   | (go_big_quiet_want;first
    | (refine yai _ _ _ (.agg I) rfl rfl (by rintro _ ⟨m,rfl⟩;exact HLi.out m) ?_;go_simp;go_big_quiet_on)|(refine yai _ _ _ (.agg T) rfl rfl (by rintro _ ⟨m,rfl⟩;exact HLt.out m) ?_;go_simp;go_big_quiet_on)|(refine ycu _ _ #[(0,.agg T),(1,.bool false)] (T0) rfl (by simp only [List.map_toArray,List.map_cons,List.map_nil];rfl) B1.out ?_;go_simp;go_big_quiet_on)|(refine ycu _ _ #[(0,.agg T),(1,.bool true)] (T1) rfl (by simp only [List.map_toArray,List.map_cons,List.map_nil];rfl) B2.out ?_;go_simp;go_big_quiet_on)
    | (go_big_quiet_op;first|go_big_quiet_on|go_big_quiet_call (first
     | (go_at_call 106;with_reducible exact (Q1).out _)|(go_at_call 107;with_reducible exact (Q2).out _)|(go_at_call 105;with_reducible exact (Q3).out _)|(go_at_call 105;with_reducible exact (Q4).out _)))))
  refine wpQuiet_nil ?_;rintro w2 ⟨⟨_,hk_w2⟩,rfl⟩;go_wp2_with fail;go_ret
  exact ⟨rfl,HkW.out.tz hk_w2⟩
 have hd:decide (n1≤0)=false:=decide_eq_false h1;rw [hd,Bool.false_and];go_enter func104,ntmps104
 go_upto_region 1 with (fail)
 obtain⟨W,ga,hW,ega,Bga,hga,hgW,HkW⟩:=al1h w (.cells (iC i) 49);rw [← hW];try rw [ega]
 clear hW ega;have HLi:=jX ((yaW Bga.out).ld (yab Bga.out));have HLt:=jX (kw_k (HkW.out.heap hb (by simp)));have hiv:iv i = .agg (iC i):=rfl;have hkv:kv t = .agg (kC t):=rfl;rw [hiv] at HLi;rw [hkv] at HLt;clear hiv hkv hb Bga;have Q1:Hid (∀ m:KW W,Calls prog 106 #[.agg (iC i)] (Wk W m) fun e w'=>e = .returned (.agg (bC i.f))∧∃ m,w'=Wk W m):=fun m=>qk m (HF.out _);have Q2:Hid (∀ m:KW W,Calls prog 107 #[.agg (iC i)] (Wk W m) fun e w'=>e = .returned (.agg (bC i.l))∧∃ m,w'=Wk W m):=fun m=>qk m (HL.out _);have Q3:Hid (∀ m:KW W,Calls prog 105 #[.agg (bC i.f),.agg (bC ⟨t,false⟩)] (Wk W m) fun e w'=>e = .returned (.int .i64 n1)∧∃ m,w'=Wk W m):=fun m=>qk m (HC1.out _);have Q4:Hid (∀ m:KW W,Calls prog 105 #[.agg (bC ⟨t,true⟩),.agg (bC i.l)] (Wk W m) fun e w'=>e = .returned (.int .i64 n2)∧∃ m,w'=Wk W m):=fun m=>qk m (HC2.out _);clear HF HL HC1 HC2;generalize iC i=I at *;generalize kC t=T at *;generalize bC i.f=F at *;generalize bC i.l=L at *;generalize bC ⟨t,false⟩=T0 at *;generalize bC ⟨t,true⟩=T1 at *;refine yac (by kernel_rfl) (by kernel_rfl) ?_
 repeat (first
  | go_big_quiet_skip
  | (go_big_quiet_want;first
   | (refine yai _ _ _ (.agg I) rfl rfl (by rintro _ ⟨m,rfl⟩;exact HLi.out m) ?_;go_simp;go_big_quiet_on)|(refine yai _ _ _ (.agg T) rfl rfl (by rintro _ ⟨m,rfl⟩;exact HLt.out m) ?_;go_simp;go_big_quiet_on)|(refine ycu _ _ #[(0,.agg T),(1,.bool false)] (T0) rfl (by simp only [List.map_toArray,List.map_cons,List.map_nil];rfl) B1.out ?_;go_simp;go_big_quiet_on)|(refine ycu _ _ #[(0,.agg T),(1,.bool true)] (T1) rfl (by simp only [List.map_toArray,List.map_cons,List.map_nil];rfl) B2.out ?_;go_simp;go_big_quiet_on)
   | (go_big_quiet_op;first|go_big_quiet_on|go_big_quiet_call (first
    | (go_at_call 106;with_reducible exact (Q1).out _)|(go_at_call 107;with_reducible exact (Q2).out _)|(go_at_call 105;with_reducible exact (Q3).out _)|(go_at_call 105;with_reducible exact (Q4).out _)))))
 refine wpQuiet_nil ?_;rintro w2 ⟨⟨_,hk_w2⟩,rfl⟩;go_wp2_with fail;go_ret
 exact ⟨rfl,HkW.out.tz hk_w2⟩
theorem any_take {α:Type} (p:α→Bool) (l:List α) (k:Nat) (h:k<l.length) (hno:(l.take k).any p=false):(l.take (k+1)).any p=p l[k]:=by
 rw [List.take_succ_eq_append_getElem h,List.any_append,hno];simp
theorem any_early {α:Type} (p:α→Bool) (l:List α) (k:Nat) (h:(l.take k).any p=true):l.any p=true:=by
 rw [List.any_eq_true] at h ⊢;obtain⟨x,hx,h⟩:=h;exact ⟨x,List.mem_of_mem_take hx,h⟩
theorem index_c (l:List (Iv K)) (t:K) (gt:Nat) (w:World) (hb:w.heap[gt]? = some (.cells (kC t) 36)) (sv:Value) (hr:IvR w sv l) (h9:l.length≤1000000000) :
  Calls prog 143 #[sv,.func (.func 104) #[] #[.pointer (some ⟨gt,0,none⟩)]] w fun e w'=>∃ n:Int,e = .returned (.int .i64 n)∧decide (0≤n)=holds l t∧Keep [] w w':=by
 have HR:=jX hr;have Hb:=jX hb;have HC:=jX (fun i w hb=>yhG i t w gt hb);obtain⟨ao,ac,rfl,_⟩:=hr.form;clear hr hb;unfold holds;generalize hP:(fun i:Iv K=>decide (i.f≤⟨t,false⟩∧(⟨t,true⟩:Bd K)≤i.l))=P at *;have HP:=jX hP;clear hP;go_enter func143,ntmps143
 go_wp2_with fail;go_loopw [5,8] (fun _ c wr=>∃ k:Nat,k≤l.length∧c = .int .i64 (k:Int)∧(l.take k).any P=false∧Keep [] w wr) (fun _ c _=>l.length-(intOf c).toNat)
 case atStart=>exact ⟨0,Nat.zero_le _,rfl,rfl,Keep.refl _ _⟩
 case round =>
  obtain⟨k,hk,rfl,hno,hkeep⟩:=hrel;have Hno:=jX hno;have HKr:=jX hkeep;clear hno hkeep;by_cases hlt:k<l.length
  ·obtain⟨g,o,rfl,hg,hat⟩:=IvR.elem (HR.out.later HKr.out) k hlt
   have Hnx:=jX (any_take P l k hlt Hno.out);obtain⟨i,hi⟩:∃ i,l[k]=i:=⟨_,rfl⟩;rw [hi] at Hnx hat;have H1:=jX (HC.out i wr (HKr.out.heap Hb.out (by simp)));obtain⟨p,hp⟩:∃ p,o+k*20=p:=⟨_,rfl⟩;rw [hp] at hat;have HL:=jX (ybH wr g p i hat);have hPi:decide (i.f≤⟨t,false⟩∧(⟨t,true⟩:Bd K)≤i.l)=P i:=by rw [← HP.out]
   have HPi:=jX hPi;rw [hPi] at H1;clear hi hat hPi;have hiv:iv i = .agg (iC i):=rfl;rw [hiv] at H1 HL;clear hiv;generalize P i=r at *;generalize iC i=I at *;go_upto_region 4 with (fail)
   refine wp_region_lit ?_;refine' yad (v:=_) (by rfl) (?ha) (fun K hK=>?ka)
   case ha=>(go_simp;try rfl)
   go_simp;refine hK _ _ ?_;clear hK K;refine' yad (v:=_) (by rfl) (?hb) (fun K hK=>?kb)
   case hb=>(go_simp;try rfl)
   go_simp;refine hK _ _ ?_;clear hK K;refine' yad (v:=_) (by rfl) (?hc) (fun K hK=>?kc)
   case hc=>(go_simp;try rfl)
   go_simp;refine hK _ _ ?_;clear hK K;refine' yad (v:=_) (by rfl) (?hd) (fun K hK=>?kd)
   case hd=>(go_simp;try rfl)
   go_simp;refine hK _ _ ?_;clear hK K;refine yad (v:=.agg I) (by rfl) (yak _ _ ⟨g,p,none⟩ _ rfl rfl HL.out) (fun K hK=>?_);go_simp;refine hK _ _ ?_;clear hK K;refine wpList_plain (by rfl) (fun K hK=>?_);refine yae 104 #[.agg I,.pointer (some ⟨gt,0,none⟩)] (by go_simp) ?_;refine H1.out.mono ?_;rintro e w3 ⟨rfl,hk3⟩;refine ⟨_,rfl,?_⟩;go_simp;refine hK _ _ ?_;clear hK K;have HKx:=jX (HKr.out.tz hk3);clear hk3 H1 HL HPi;cases r with
   | true =>
    go_wp2_with fail;go_ret
    exact ⟨(k:Int),rfl,by rw [any_early P l _ Hnx.out];exact decide_eq_true (by omega),HKx.out⟩
   | false =>
    go_wp2_with fail;go_roundw
    case rel=>exact ⟨k+1,by omega,congrArg (Value.int .i64) (by omega),Hnx.out,HKx.out⟩
    case measure=>simp [intOf];omega
  have hkl:l.take k=l:=List.take_of_length_le (by omega);have HF:Hid (l.any P=false):=by rw [← hkl];exact Hno.out
  clear hkl Hno;go_wp2_with fail;go_ret
  exact ⟨-1,rfl,by rw [HF.out];rfl,HKr.out⟩
theorem contF_c (l:List (Iv K)) (t:K) (gt:Nat) (w:World) (hb:w.heap[gt]? = some (.cells (kC t) 36)) (sv:Value) (hr:IvR w sv l) (h9:l.length≤1000000000) :
  Calls prog 103 #[sv,.func (.func 104) #[] #[.pointer (some ⟨gt,0,none⟩)]] w fun e w'=>e = .returned (.bool (holds l t))∧Keep [] w w':=by
 have H:=jX (index_c l t gt w hb sv hr h9);obtain⟨ao,ac,rfl,_⟩:=hr.form;clear hr hb;go_enter func103,ntmps103
 go_wp2_with fail;refine H.out.mono ?_;rintro e w2 ⟨n,rfl,hn,hk⟩;dsimp only;have HK:=jX hk;clear hk;go_wp2_with fail;go_ret
 exact ⟨rfl,HK.out⟩
theorem yjy (l:List (Iv K)) (t:K) (w:World) (sv:Value) (hr:IvR w sv l) (h9:l.length≤1000000000) :
  Calls prog 65 #[sv,kv t] w fun e w'=>e = .returned (.bool (holds l t))∧Keep [] w w':=by
 have HR:=jX hr;have HC:=jX (fun w gt hb sv hr=>contF_c l t gt w hb sv hr h9);obtain⟨ao,ac,rfl,_⟩:=hr.form;clear hr h9;show Calls prog 65 #[_,.agg (kC t)] w _
 go_enter func65,ntmps65
 go_upto_region 1 with (fail)
 obtain⟨W,ga,hW,ega,Bga,hga,hgW,HkW⟩:=al1h w (.cells (kC t) 36);rw [← hW];try rw [ega]
 clear hW ega;have H:=jX (HC.out W ga Bga.out _ (HR.out.later HkW.out));clear HC;go_wp2_with fail;refine H.out.mono ?_;rintro e w2 ⟨rfl,hk⟩;dsimp only;have HK:=jX (HkW.out.tz hk);clear hk;go_wp2_with fail;go_ret
 exact ⟨rfl,HK.out⟩
end
section
open Classical
structure RawI where
 f:RawR
 t:RawR
 o:Bool
 c:Bool
def RawI.cells (r:RawI):List Value:=r.f.cells++r.t.cells++[.bool r.o,.bool r.c]
def RawI.C (r:RawI):Array Value:=r.cells.toArray
def RawI.v (r:RawI):Value:=.agg r.C
def RawI.of (i:Iv K):RawI:=⟨RawR.of i.f.pt.1,RawR.of i.l.pt.1,i.f.beh,!i.l.beh⟩
theorem RawI.of_inj {i j:Iv K} (h:RawI.of i=RawI.of j):i=j:=by
 unfold RawI.of at h;injection h with h1 h2 h3 h4;have e1:i.f.pt=j.f.pt:=Subtype.ext (RawR.of_inj h1);have e2:i.l.pt=j.l.pt:=Subtype.ext (RawR.of_inj h2);have e4:i.l.beh=j.l.beh:=by simpa using h4
 obtain⟨⟨a,b⟩,⟨c,d⟩⟩:=i;obtain⟨⟨a',b'⟩,⟨c',d'⟩⟩:=j;dsimp only at *;subst e1 e2 h3 e4;rfl
def RawI.sz (r:RawI) (k:Nat):Prop:=r.f.sz k∧r.t.sz k
theorem RawR.toK {x:RawR} (h:x.isK) (hs:x.sz 100000):∃ k:K,x=RawR.of k.1:=by
 obtain⟨q,hq,rfl⟩:=h
 have hd:∀ n:Nat,(dnS n).size≤100000→Fit 100000 (n:Int):=fun n h=>by
  unfold dnS at h;unfold Fit mgS;rw [Int.natAbs_natCast];split at h
  ·rename_i h1;rw [h1];exact Nat.le_trans ((yaO 1 1).2 (by decide)) (by decide)
  exact h
 obtain⟨s1,s2,s3,s4⟩:=hs;exact ⟨⟨q,hq,⟨s1,hd _ s2⟩,⟨s3,hd _ s4⟩⟩,rfl⟩
theorem RawI.toI {r:RawI} (h1:r.f.isK) (h2:r.t.isK) (hs:r.sz 100000):∃ i:Iv K,r=RawI.of i:=by
 obtain⟨a,ha⟩:=RawR.toK h1 hs.1;obtain⟨b,hb⟩:=RawR.toK h2 hs.2;obtain⟨f,t,o,c⟩:=r;dsimp only at *;subst ha hb;exact ⟨⟨⟨a,o⟩,⟨b,!c⟩⟩,by unfold RawI.of;simp⟩
noncomputable def eI (r:RawI):Int:=if h:∃ i:Iv K,r=RawI.of i then (if h.choose.f<h.choose.l then 0 else 10) else 5
theorem eI_of (i:Iv K):eI (RawI.of i)=if i.f<i.l then 0 else 10:=by
 have h:∃ j:Iv K,RawI.of i=RawI.of j:=⟨i,rfl⟩;unfold eI;rw [dif_pos h,← RawI.of_inj h.choose_spec]
theorem eI_no {r:RawI} (h:¬ (r.f.isK∧r.t.isK)):eI r=5:=dif_neg (by
 rintro ⟨i,rfl⟩
 exact h ⟨⟨_,i.f.pt.2.1,rfl⟩,⟨_,i.l.pt.2.1,rfl⟩⟩)
theorem ydT (x:RawR):x.cells.length=9:=rfl
theorem yeu (w:World) (b o:Nat) (x:RawR) (hc:∀ k v,x.cells[k]? = some v→w.cell? ⟨b,o+k,none⟩=some v):(loadVar 36 ⟨b,o,none⟩).run prog w = .ok x.v w:=by
 obtain⟨ie,hie,hs⟩:=infoReal;exact Go.Lib.rl_loadVar_cells 36 ie hie isAgg36 b o x.cells (by rw [hs];rfl) w hc
theorem ybF (w:World) (b o:Nat) (r:RawI) (hc:∀ k v,r.cells[k]? = some v→w.cell? ⟨b,o+k,none⟩=some v):(loadVar 49 ⟨b,o,none⟩).run prog w = .ok r.v w:=by
 obtain⟨ie,hie,hs⟩:=infoIv;exact Go.Lib.rl_loadVar_cells 49 ie hie isAgg49 b o r.cells (by rw [hs];rfl) w hc
def RIAt (w:World) (b o:Nat) (r:RawI):Prop:=∀ k v,r.cells[k]? = some v→w.cell? ⟨b,o+k,none⟩=some v
theorem RIAt.frm {w:World} {b o:Nat} {r:RawI} (h:RIAt w b o r):∀ k v,r.f.cells[k]? = some v→w.cell? ⟨b,o+k,none⟩=some v:=fun k v hk=>by
 refine h k v ?_;have hl:k<9:=by have:=(List.getElem?_eq_some_iff.1 hk).1;rwa [ydT] at this
 unfold RawI.cells;rw [List.append_assoc,List.getElem?_append_left (by rw [ydT];exact hl)];exact hk
theorem RIAt.upto {w:World} {b o:Nat} {r:RawI} (h:RIAt w b o r):∀ k v,r.t.cells[k]? = some v→w.cell? ⟨b,o+9+k,none⟩=some v:=fun k v hk=>by
 have hl:k<9:=by have:=(List.getElem?_eq_some_iff.1 hk).1;rwa [ydT] at this
 have:=h (9+k) v (by
  unfold RawI.cells;rw [List.append_assoc,List.getElem?_append_right (by rw [ydT];omega),ydT,List.getElem?_append_left (by rw [ydT];omega),Nat.add_sub_cancel_left]
  exact hk)
 rwa [← Nat.add_assoc] at this
theorem ycM {w:World} {g:Nat} {r:RawI} {t:TypeId} (h:w.heap[g]? = some (.cells r.C t)):RIAt w g 0 r:=fun k v hk=>by
 rw [Nat.zero_add,yaa h];exact (List.getElem?_toArray ..).trans hk
end
section
open Classical
section
variable {P:Program} {ops:Array Oper} {Q:Exit→Act→World→Prop}
theorem yfU {rest:List Oper} {o:Oper} {a:Act} {w:World} (hw:Region.wanted o (yielded ops a.tmps)=true)
  (h:∀ K:Act→World→Prop,(∀ a w,wpList P ops Q rest a w→K a w)→o.wp P a w K Q):wpList P ops Q (o :: rest) a w:=by
 unfold wpList;rw [if_pos hw];exact .inl (h _ fun _ _ h=>h)
theorem ydO {rest:List Oper} {o:Oper} {a:Act} {w:World} {v:Value} (hw:Region.wanted o (yielded ops a.tmps)=true) (h:(execOp a.eval o).run P w = .ok (.value v) w)
  (hk:∀ K:Act→World→Prop,(∀ a w,wpList P ops Q rest a w→K a w)→K (a.put o.dst v) w):wpList P ops Q (o :: rest) a w:=yfU hw fun K hK=>yaF v w h (hk K hK)
end
theorem pci_p (r:RawI) (hs:r.sz 100000) (w:World):Calls prog 96 #[r.v] w fun e w'=>e = .returned (.int .i64 (eI r))∧Below w.heap.size w w':=by
 have H1:=jX (rchk_p r.f ⟨Nat.le_trans hs.1.1 (by decide),Nat.le_trans hs.1.2.1 (by decide),Nat.le_trans hs.1.2.2.1 (by decide),Nat.le_trans hs.1.2.2.2 (by decide)⟩);have H2:=jX (rchk_p r.t ⟨Nat.le_trans hs.2.1 (by decide),Nat.le_trans hs.2.2.1 (by decide),Nat.le_trans hs.2.2.2.1 (by decide),Nat.le_trans hs.2.2.2.2 (by decide)⟩);have HLd:=jX (fun (u:World) (g:Nat) (h:u.heap[g]? = some (.cells r.C 49))=>And.intro (yeu u g 0 r.f (ycM h).frm) (yeu u g (0+9) r.t (ycM h).upto));have hv:r.v = .agg r.C:=rfl;by_cases hf:r.f.isK
 ·rw [decide_eq_true hf,show errF true = .int .i64 0 from rfl] at H1
  by_cases ht:r.t.isK
  ·rw [decide_eq_true ht,show errF true = .int .i64 0 from rfl] at H2
   obtain⟨i,hi⟩:=RawI.toI hf ht hs;have he:eI r=if i.f<i.l then 0 else 10:=by rw [hi,eI_of]
   have HLi:=jX (fun (u:World) (g:Nat) (h:u.heap[g]? = some (.cells r.C 49))=>ybF u g 0 r (ycM h));have H3:=jX (yfT i);have H4:=jX (yiB i);have H5:=jX (yfs i.f i.l);have hiv:iv i = .agg r.C:=by rw [hi];rfl
   have hcm:(0≤cmpB i.f i.l) ↔ ¬ i.f<i.l:=by
    have h0:=yfj i.f i.l;constructor
    ·intro h h2
     have:=h0.2 h2;omega
    intro h;exact Int.not_lt.1 fun h2=>h (h0.1 h2)
   rw [he,hv];rw [hiv] at H3 H4;rw [hv] at HLi;unfold bv at H3 H4 H5;generalize (bcells i.f).toArray=BF at *;generalize (bcells i.l).toArray=BL at *;generalize cmpB i.f i.l=n at *;clear hf ht hs hi he hiv hv;generalize r.f.v=fv at *;generalize r.t.v=tv at *;generalize r.C=C at *;by_cases hlt:i.f<i.l
   ·have hn:¬ 0≤n:=fun h=>(hcm.1 h) hlt
    rw [if_pos hlt];clear hcm hlt;go_enter func96,ntmps96
    go_upto_region 1 with (fail)
    obtain⟨W,ga,hW,ega,Bga,hga,hgW,HkW⟩:=al1h w (.cells C 49);rw [← hW];try rw [ega]
    clear hW ega;have HF:=jX ((HLd.out W ga Bga.out).1);have HT:=jX ((HLd.out W ga Bga.out).2);refine wp_region_lit ?_;refine' yad (v:=_) (by rfl) (?ha1) (fun K hK=>?ka1)
    case ha1=>(go_simp;try rfl)
    go_simp;refine hK _ _ ?_;clear hK K;refine yad (v:=fv) (by rfl) (yak _ _ ⟨ga,0,none⟩ _ rfl rfl HF.out) (fun K hK=>?_);go_simp;refine hK _ _ ?_;clear hK K;refine wpList_plain (by rfl) (fun K hK=>?_);refine yae 133 #[fv] (by go_simp) ?_;refine (H1.out _).mono ?_;rintro e w1 ⟨rfl,hb1⟩;refine ⟨_,rfl,?_⟩;go_simp;refine hK _ _ ?_;clear hK K;have HB1:=jX (HkW.out.bz.trans (Below.mono hb1 HkW.out.size));have B2ga:=jX ((hb1.block ga (yab Bga.out)).trans Bga.out);clear Bga;have Bga:=B2ga;clear B2ga;have HT:=jX ((HLd.out w1 ga Bga.out).2);clear hb1 HF;refine' yad (v:=_) (by rfl) (?hb1) (fun K hK=>?kb1)
    case hb1=>(go_simp;try rfl)
    go_simp;refine hK _ _ ?_;clear hK K;refine' yad (v:=_) (by rfl) (?hc1) (fun K hK=>?kc1)
    case hc1=>(go_simp;try rfl)
    go_simp;refine hK _ _ ?_;clear hK K;refine' ydO (v:=_) (by rfl) (?hd1) (fun K hK=>?kd1)
    case hd1=>(go_simp;try rfl)
    go_simp;refine hK _ _ ?_;clear hK K;refine ydO (v:=tv) (by rfl) (yak _ _ ⟨ga,9,none⟩ _ rfl rfl HT.out) (fun K hK=>?_);go_simp;refine hK _ _ ?_;clear hK K;refine yfU (by rfl) (fun K hK=>?_);refine yae 133 #[tv] (by go_simp) ?_;refine (H2.out _).mono ?_;rintro e w2 ⟨rfl,hb2⟩;refine ⟨_,rfl,?_⟩;go_simp;refine hK _ _ ?_;clear hK K;have HB2:=jX (HB1.out.trans (Below.mono hb2 HB1.out.size));have B2ga:=jX ((hb2.block ga (yab Bga.out)).trans Bga.out);clear Bga;have Bga:=B2ga;clear B2ga;clear hb2 HT;go_wp2_with fail;have HX:Hid (∀ m:KW w2,(loadVar 49 ⟨ga,0,none⟩).run prog (Wk w2 m) = .ok (.agg C) (Wk w2 m)):=fun m=>HLi.out _ ga (m.k.heap Bga.out (by simp));have Q3:Hid (∀ m:KW w2,Calls prog 106 #[.agg C] (Wk w2 m) fun e w'=>e = .returned (.agg BF)∧∃ m,w'=Wk w2 m):=fun m=>qk m (H3.out _);have Q4:Hid (∀ m:KW w2,Calls prog 107 #[.agg C] (Wk w2 m) fun e w'=>e = .returned (.agg BL)∧∃ m,w'=Wk w2 m):=fun m=>qk m (H4.out _);have Q5:Hid (∀ m:KW w2,Calls prog 105 #[.agg BF,.agg BL] (Wk w2 m) fun e w'=>e = .returned (.int .i64 n)∧∃ m,w'=Wk w2 m):=fun m=>qk m (H5.out _);refine yac (by kernel_rfl) (by kernel_rfl) ?_
    repeat (first
     | go_big_quiet_skip
     | (go_big_quiet_want;first
      | (refine yai _ _ _ (.agg C) rfl rfl (by rintro _ ⟨m,rfl⟩;exact HX.out m) ?_;go_simp;go_big_quiet_on)
      | (go_big_quiet_op;first|go_big_quiet_on|go_big_quiet_call (first
       | (go_at_call 106;with_reducible exact (Q3).out _)|(go_at_call 107;with_reducible exact (Q4).out _)|(go_at_call 105;with_reducible exact (Q5).out _)))))
    refine wpQuiet_nil ?_;rintro w3 ⟨⟨_,hk_w3⟩,rfl⟩;have HB3:=jX (HB2.out.trans (Below.mono hk_w3.bz HB2.out.size));clear hk_w3;go_wp2_with fail;go_ret
    exact ⟨rfl,HB3.out⟩
   have hn:0≤n:=hcm.2 hlt;rw [if_neg hlt];clear hcm hlt;go_enter func96,ntmps96
   go_upto_region 1 with (fail)
   obtain⟨W,ga,hW,ega,Bga,hga,hgW,HkW⟩:=al1h w (.cells C 49);rw [← hW];try rw [ega]
   clear hW ega;have HF:=jX ((HLd.out W ga Bga.out).1);have HT:=jX ((HLd.out W ga Bga.out).2);refine wp_region_lit ?_;refine' yad (v:=_) (by rfl) (?ha4) (fun K hK=>?ka4)
   case ha4=>(go_simp;try rfl)
   go_simp;refine hK _ _ ?_;clear hK K;refine yad (v:=fv) (by rfl) (yak _ _ ⟨ga,0,none⟩ _ rfl rfl HF.out) (fun K hK=>?_);go_simp;refine hK _ _ ?_;clear hK K;refine wpList_plain (by rfl) (fun K hK=>?_);refine yae 133 #[fv] (by go_simp) ?_;refine (H1.out _).mono ?_;rintro e w1 ⟨rfl,hb1⟩;refine ⟨_,rfl,?_⟩;go_simp;refine hK _ _ ?_;clear hK K;have HB1:=jX (HkW.out.bz.trans (Below.mono hb1 HkW.out.size));have B2ga:=jX ((hb1.block ga (yab Bga.out)).trans Bga.out);clear Bga;have Bga:=B2ga;clear B2ga;have HT:=jX ((HLd.out w1 ga Bga.out).2);clear hb1 HF;refine' yad (v:=_) (by rfl) (?hb4) (fun K hK=>?kb4)
   case hb4=>(go_simp;try rfl)
   go_simp;refine hK _ _ ?_;clear hK K;refine' yad (v:=_) (by rfl) (?hc4) (fun K hK=>?kc4)
   case hc4=>(go_simp;try rfl)
   go_simp;refine hK _ _ ?_;clear hK K;refine' ydO (v:=_) (by rfl) (?hd4) (fun K hK=>?kd4)
   case hd4=>(go_simp;try rfl)
   go_simp;refine hK _ _ ?_;clear hK K;refine ydO (v:=tv) (by rfl) (yak _ _ ⟨ga,9,none⟩ _ rfl rfl HT.out) (fun K hK=>?_);go_simp;refine hK _ _ ?_;clear hK K;refine yfU (by rfl) (fun K hK=>?_);refine yae 133 #[tv] (by go_simp) ?_;refine (H2.out _).mono ?_;rintro e w2 ⟨rfl,hb2⟩;refine ⟨_,rfl,?_⟩;go_simp;refine hK _ _ ?_;clear hK K;have HB2:=jX (HB1.out.trans (Below.mono hb2 HB1.out.size));have B2ga:=jX ((hb2.block ga (yab Bga.out)).trans Bga.out);clear Bga;have Bga:=B2ga;clear B2ga;clear hb2 HT;go_wp2_with fail;have HX:Hid (∀ m:KW w2,(loadVar 49 ⟨ga,0,none⟩).run prog (Wk w2 m) = .ok (.agg C) (Wk w2 m)):=fun m=>HLi.out _ ga (m.k.heap Bga.out (by simp));have Q3:Hid (∀ m:KW w2,Calls prog 106 #[.agg C] (Wk w2 m) fun e w'=>e = .returned (.agg BF)∧∃ m,w'=Wk w2 m):=fun m=>qk m (H3.out _);have Q4:Hid (∀ m:KW w2,Calls prog 107 #[.agg C] (Wk w2 m) fun e w'=>e = .returned (.agg BL)∧∃ m,w'=Wk w2 m):=fun m=>qk m (H4.out _);have Q5:Hid (∀ m:KW w2,Calls prog 105 #[.agg BF,.agg BL] (Wk w2 m) fun e w'=>e = .returned (.int .i64 n)∧∃ m,w'=Wk w2 m):=fun m=>qk m (H5.out _);refine yac (by kernel_rfl) (by kernel_rfl) ?_
   repeat (first
    | go_big_quiet_skip
    | (go_big_quiet_want;first
     | (refine yai _ _ _ (.agg C) rfl rfl (by rintro _ ⟨m,rfl⟩;exact HX.out m) ?_;go_simp;go_big_quiet_on)
     | (go_big_quiet_op;first|go_big_quiet_on|go_big_quiet_call (first
      | (go_at_call 106;with_reducible exact (Q3).out _)|(go_at_call 107;with_reducible exact (Q4).out _)|(go_at_call 105;with_reducible exact (Q5).out _)))))
   refine wpQuiet_nil ?_;rintro w3 ⟨⟨_,hk_w3⟩,rfl⟩;have HB3:=jX (HB2.out.trans (Below.mono hk_w3.bz HB2.out.size));clear hk_w3;go_wp2_with fail;go_ret
   exact ⟨rfl,HB3.out⟩
  rw [decide_eq_false ht,show errF false = .int .i64 5 from rfl] at H2
  have he:eI r=5:=eI_no (fun h=>ht h.2);rw [he,hv];clear hf ht hs he hv;generalize r.f.v=fv at *;generalize r.t.v=tv at *;generalize r.C=C at *;go_enter func96,ntmps96
  go_upto_region 1 with (fail)
  obtain⟨W,ga,hW,ega,Bga,hga,hgW,HkW⟩:=al1h w (.cells C 49);rw [← hW];try rw [ega]
  clear hW ega;have HF:=jX ((HLd.out W ga Bga.out).1);have HT:=jX ((HLd.out W ga Bga.out).2);refine wp_region_lit ?_;refine' yad (v:=_) (by rfl) (?ha2) (fun K hK=>?ka2)
  case ha2=>(go_simp;try rfl)
  go_simp;refine hK _ _ ?_;clear hK K;refine yad (v:=fv) (by rfl) (yak _ _ ⟨ga,0,none⟩ _ rfl rfl HF.out) (fun K hK=>?_);go_simp;refine hK _ _ ?_;clear hK K;refine wpList_plain (by rfl) (fun K hK=>?_);refine yae 133 #[fv] (by go_simp) ?_;refine (H1.out _).mono ?_;rintro e w1 ⟨rfl,hb1⟩;refine ⟨_,rfl,?_⟩;go_simp;refine hK _ _ ?_;clear hK K;have HB1:=jX (HkW.out.bz.trans (Below.mono hb1 HkW.out.size));have B2ga:=jX ((hb1.block ga (yab Bga.out)).trans Bga.out);clear Bga;have Bga:=B2ga;clear B2ga;have HT:=jX ((HLd.out w1 ga Bga.out).2);clear hb1 HF;refine' yad (v:=_) (by rfl) (?hb2) (fun K hK=>?kb2)
  case hb2=>(go_simp;try rfl)
  go_simp;refine hK _ _ ?_;clear hK K;refine' yad (v:=_) (by rfl) (?hc2) (fun K hK=>?kc2)
  case hc2=>(go_simp;try rfl)
  go_simp;refine hK _ _ ?_;clear hK K;refine' ydO (v:=_) (by rfl) (?hd2) (fun K hK=>?kd2)
  case hd2=>(go_simp;try rfl)
  go_simp;refine hK _ _ ?_;clear hK K;refine ydO (v:=tv) (by rfl) (yak _ _ ⟨ga,9,none⟩ _ rfl rfl HT.out) (fun K hK=>?_);go_simp;refine hK _ _ ?_;clear hK K;refine yfU (by rfl) (fun K hK=>?_);refine yae 133 #[tv] (by go_simp) ?_;refine (H2.out _).mono ?_;rintro e w2 ⟨rfl,hb2⟩;refine ⟨_,rfl,?_⟩;go_simp;refine hK _ _ ?_;clear hK K;have HB2:=jX (HB1.out.trans (Below.mono hb2 HB1.out.size));have B2ga:=jX ((hb2.block ga (yab Bga.out)).trans Bga.out);clear Bga;have Bga:=B2ga;clear B2ga;clear hb2 HT;go_wp2_with fail;go_ret
  exact ⟨rfl,HB2.out⟩
 rw [decide_eq_false hf,show errF false = .int .i64 5 from rfl] at H1
 have he:eI r=5:=eI_no (fun h=>hf h.1);rw [he,hv];clear hf hs he hv H2;generalize r.f.v=fv at *;generalize r.t.v=tv at *;generalize r.C=C at *;go_enter func96,ntmps96
 go_upto_region 1 with (fail)
 obtain⟨W,ga,hW,ega,Bga,hga,hgW,HkW⟩:=al1h w (.cells C 49);rw [← hW];try rw [ega]
 clear hW ega;have HF:=jX ((HLd.out W ga Bga.out).1);have HT:=jX ((HLd.out W ga Bga.out).2);refine wp_region_lit ?_;refine' yad (v:=_) (by rfl) (?ha3) (fun K hK=>?ka3)
 case ha3=>(go_simp;try rfl)
 go_simp;refine hK _ _ ?_;clear hK K;refine yad (v:=fv) (by rfl) (yak _ _ ⟨ga,0,none⟩ _ rfl rfl HF.out) (fun K hK=>?_);go_simp;refine hK _ _ ?_;clear hK K;refine wpList_plain (by rfl) (fun K hK=>?_);refine yae 133 #[fv] (by go_simp) ?_;refine (H1.out _).mono ?_;rintro e w1 ⟨rfl,hb1⟩;refine ⟨_,rfl,?_⟩;go_simp;refine hK _ _ ?_;clear hK K;have HB1:=jX (HkW.out.bz.trans (Below.mono hb1 HkW.out.size));have B2ga:=jX ((hb1.block ga (yab Bga.out)).trans Bga.out);clear Bga;have Bga:=B2ga;clear B2ga;have HT:=jX ((HLd.out w1 ga Bga.out).2);clear hb1 HF;go_wp2_with fail;go_ret
 exact ⟨rfl,HB1.out⟩
end
end Go.Proofs.YtejegogbhpmgfaaGreatDoor
