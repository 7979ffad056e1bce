/- Parts of a proof: Vc Ky Kz La. -/
import Derived.Test.YtpgffjjpiafhpaaGreatDoorU18
import Derived.Test.YtpgffjjpiafhpaaGreatDoorU15
import Derived.Test.YtpgffjjpiafhpaaGreatDoorU23
import Derived.Test.YtpgffjjpiafhpaaGreatDoorU16
set_option linter.unusedVariables false
set_option linter.unusedSimpArgs false
set_option maxRecDepth 100000
set_option maxHeartbeats 8000000
namespace Go.Proofs.YtpgffjjpiafhpaaGreatDoor
open Go.RowKit Tryz
section
open Classical
theorem cmpB_le (a b:Bd K):cmpB a b≤0↔a≤b:=by
 rcases ycW a b with ⟨h,g⟩|⟨h,g⟩|⟨h,g⟩
 ·rw [h];exact ⟨fun h2=>absurd h2 (by decide),fun h2=>by grind⟩
 ·rw [h];exact ⟨fun _=>by grind,fun _=>by decide⟩
 rw [h];exact ⟨fun _=>by grind,fun _=>by decide⟩
theorem yiv (x:K) (o:Bool):prog.built 114 [(0,kv x),(1,.bool o)]=some (bC ⟨x,o⟩):=ycF _ _ _ _ _ _ _ _
theorem yhC (i:Iv K) (t:K) (w:World) (g:Nat) (hb:w.heap[g]? = some (.cells (kC t) 30)) :
  Calls prog 115 #[iv i,.pointer (some ⟨g,0,none⟩)] w fun e w'=>e = .returned (.bool (decide (i.f≤⟨t,false⟩∧(⟨t,true⟩:Bd K)≤i.l)))∧Keep [] w w':=by
 have HF:=jX (fun w=>yfi i w);have HL:=jX (fun w=>yhl i w);have HC1:=jX (fun w=>yfk i.f ⟨t,false⟩ w);have HC2:=jX (fun w=>yfk ⟨t,true⟩ i.l w);have B1:=jX (yiv t false);have B2:=jX (yiv t true);have hd1:decide (cmpB i.f ⟨t,false⟩≤0)=decide (i.f≤⟨t,false⟩):=by rw [Bool.eq_iff_iff,decide_eq_true_iff,decide_eq_true_iff];exact cmpB_le _ _
 have hd2:decide (cmpB ⟨t,true⟩ i.l≤0)=decide ((⟨t,true⟩:Bd K)≤i.l):=by rw [Bool.eq_iff_iff,decide_eq_true_iff,decide_eq_true_iff];exact cmpB_le _ _
 have hres:decide (i.f≤⟨t,false⟩∧(⟨t,true⟩:Bd K)≤i.l)=(decide (cmpB i.f ⟨t,false⟩≤0)&&decide (cmpB ⟨t,true⟩ i.l≤0)):=by rw [hd1,hd2,Bool.decide_and]
 rw [hres];clear hd1 hd2 hres;generalize cmpB i.f ⟨t,false⟩=n1 at *;generalize cmpB ⟨t,true⟩ i.l=n2 at *;have ho:iv i = .agg (iC i):=rfl;have hk:kv t = .agg (kC t):=rfl;have e1:bv i.f = .agg (bC i.f):=rfl;have e2:bv i.l = .agg (bC i.l):=rfl;have e3:bv ⟨t,false⟩ = .agg (bC ⟨t,false⟩):=rfl;have e4:bv ⟨t,true⟩ = .agg (bC ⟨t,true⟩):=rfl;rw [ho];rw [ho,e1] at HF;rw [ho,e2] at HL;rw [e1,e3] at HC1;rw [e2,e4] at HC2;rw [hk] at B1 B2;clear ho hk e1 e2 e3 e4;by_cases h1:n1≤0
 ·have hd:decide (n1≤0)=true:=decide_eq_true h1
  rw [hd,Bool.true_and];go_enter func115,ntmps115
  go_upto_region 1 with (fail)
  obtain⟨W,ga,hW,ega,Bga,hga,hgW,HkW⟩:=al1h w (.cells (iC i) 32);rw [← hW];try rw [ega]
  clear hW ega;have HLi:=jX ((yao Bga.out).ld (yaa Bga.out));have HLt:=jX (kw_k (HkW.out.heap hb (by simp)));have hiv:iv i = .agg (iC i):=rfl;have hkv:kv t = .agg (kC t):=rfl;rw [hiv] at HLi;rw [hkv] at HLt;clear hiv hkv hb Bga;have Q1:Hid (∀ m:KW W,Calls prog 77 #[.agg (iC i)] (Wk W m) fun e w'=>e = .returned (.agg (bC i.f))∧∃ m,w'=Wk W m):=fun m=>qk m (HF.out _);have Q2:Hid (∀ m:KW W,Calls prog 78 #[.agg (iC i)] (Wk W m) fun e w'=>e = .returned (.agg (bC i.l))∧∃ m,w'=Wk W m):=fun m=>qk m (HL.out _);have Q3:Hid (∀ m:KW W,Calls prog 76 #[.agg (bC i.f),.agg (bC ⟨t,false⟩)] (Wk W m) fun e w'=>e = .returned (.int .i64 n1)∧∃ m,w'=Wk W m):=fun m=>qk m (HC1.out _);have Q4:Hid (∀ m:KW W,Calls prog 76 #[.agg (bC ⟨t,true⟩),.agg (bC i.l)] (Wk W m) fun e w'=>e = .returned (.int .i64 n2)∧∃ m,w'=Wk W m):=fun m=>qk m (HC2.out _);clear HF HL HC1 HC2;generalize iC i=I at *;generalize kC t=T at *;generalize bC i.f=F at *;generalize bC i.l=L at *;generalize bC ⟨t,false⟩=T0 at *;generalize bC ⟨t,true⟩=T1 at *;refine yad (by kernel_rfl) (by kernel_rfl) ?_
  repeat (first
   | go_big_quiet_skip
   | (go_big_quiet_want;first
    | (refine yaj _ _ _ (.agg I) rfl rfl (by rintro _ ⟨m,rfl⟩;exact HLi.out m) ?_;go_simp;go_big_quiet_on)|(refine yaj _ _ _ (.agg T) rfl rfl (by rintro _ ⟨m,rfl⟩;exact HLt.out m) ?_;go_simp;go_big_quiet_on)|(refine ybo _ _ #[(0,.agg T),(1,.bool false)] (T0) rfl (by simp only [List.map_toArray,List.map_cons,List.map_nil];rfl) B1.out ?_;go_simp;go_big_quiet_on)|(refine ybo _ _ #[(0,.agg T),(1,.bool true)] (T1) rfl (by simp only [List.map_toArray,List.map_cons,List.map_nil];rfl) B2.out ?_;go_simp;go_big_quiet_on)
    | (go_big_quiet_op;first|go_big_quiet_on|go_big_quiet_call (first
     | (go_at_call 77;with_reducible exact (Q1).out _)|(go_at_call 78;with_reducible exact (Q2).out _)|(go_at_call 76;with_reducible exact (Q3).out _)|(go_at_call 76;with_reducible exact (Q4).out _)))))
  refine wpQuiet_nil ?_;rintro w2 ⟨⟨_,hk_w2⟩,rfl⟩;go_wp2_with fail;go_ret
  exact ⟨rfl,HkW.out.tz hk_w2⟩
 have hd:decide (n1≤0)=false:=decide_eq_false h1;rw [hd,Bool.false_and];go_enter func115,ntmps115
 go_upto_region 1 with (fail)
 obtain⟨W,ga,hW,ega,Bga,hga,hgW,HkW⟩:=al1h w (.cells (iC i) 32);rw [← hW];try rw [ega]
 clear hW ega;have HLi:=jX ((yao Bga.out).ld (yaa Bga.out));have HLt:=jX (kw_k (HkW.out.heap hb (by simp)));have hiv:iv i = .agg (iC i):=rfl;have hkv:kv t = .agg (kC t):=rfl;rw [hiv] at HLi;rw [hkv] at HLt;clear hiv hkv hb Bga;have Q1:Hid (∀ m:KW W,Calls prog 77 #[.agg (iC i)] (Wk W m) fun e w'=>e = .returned (.agg (bC i.f))∧∃ m,w'=Wk W m):=fun m=>qk m (HF.out _);have Q2:Hid (∀ m:KW W,Calls prog 78 #[.agg (iC i)] (Wk W m) fun e w'=>e = .returned (.agg (bC i.l))∧∃ m,w'=Wk W m):=fun m=>qk m (HL.out _);have Q3:Hid (∀ m:KW W,Calls prog 76 #[.agg (bC i.f),.agg (bC ⟨t,false⟩)] (Wk W m) fun e w'=>e = .returned (.int .i64 n1)∧∃ m,w'=Wk W m):=fun m=>qk m (HC1.out _);have Q4:Hid (∀ m:KW W,Calls prog 76 #[.agg (bC ⟨t,true⟩),.agg (bC i.l)] (Wk W m) fun e w'=>e = .returned (.int .i64 n2)∧∃ m,w'=Wk W m):=fun m=>qk m (HC2.out _);clear HF HL HC1 HC2;generalize iC i=I at *;generalize kC t=T at *;generalize bC i.f=F at *;generalize bC i.l=L at *;generalize bC ⟨t,false⟩=T0 at *;generalize bC ⟨t,true⟩=T1 at *;refine yad (by kernel_rfl) (by kernel_rfl) ?_
 repeat (first
  | go_big_quiet_skip
  | (go_big_quiet_want;first
   | (refine yaj _ _ _ (.agg I) rfl rfl (by rintro _ ⟨m,rfl⟩;exact HLi.out m) ?_;go_simp;go_big_quiet_on)|(refine yaj _ _ _ (.agg T) rfl rfl (by rintro _ ⟨m,rfl⟩;exact HLt.out m) ?_;go_simp;go_big_quiet_on)|(refine ybo _ _ #[(0,.agg T),(1,.bool false)] (T0) rfl (by simp only [List.map_toArray,List.map_cons,List.map_nil];rfl) B1.out ?_;go_simp;go_big_quiet_on)|(refine ybo _ _ #[(0,.agg T),(1,.bool true)] (T1) rfl (by simp only [List.map_toArray,List.map_cons,List.map_nil];rfl) B2.out ?_;go_simp;go_big_quiet_on)
   | (go_big_quiet_op;first|go_big_quiet_on|go_big_quiet_call (first
    | (go_at_call 77;with_reducible exact (Q1).out _)|(go_at_call 78;with_reducible exact (Q2).out _)|(go_at_call 76;with_reducible exact (Q3).out _)|(go_at_call 76;with_reducible exact (Q4).out _)))))
 refine wpQuiet_nil ?_;rintro w2 ⟨⟨_,hk_w2⟩,rfl⟩;go_wp2_with fail;go_ret
 exact ⟨rfl,HkW.out.tz hk_w2⟩
theorem any_take {α:Type} (p:α→Bool) (l:List α) (k:Nat) (h:k<l.length) (hno:(l.take k).any p=false):(l.take (k+1)).any p=p l[k]:=by
 rw [List.take_succ_eq_append_getElem h,List.any_append,hno];simp
theorem any_early {α:Type} (p:α→Bool) (l:List α) (k:Nat) (h:(l.take k).any p=true):l.any p=true:=by
 rw [List.any_eq_true] at h ⊢;obtain⟨x,hx,h⟩:=h;exact ⟨x,List.mem_of_mem_take hx,h⟩
theorem index_c (l:List (Iv K)) (t:K) (gt:Nat) (w:World) (hb:w.heap[gt]? = some (.cells (kC t) 30)) (sv:Value) (hr:IvR w sv l) (h9:l.length≤1000000000) :
  Calls prog 161 #[sv,.func (.func 115) #[] #[.pointer (some ⟨gt,0,none⟩)]] w fun e w'=>∃ n:Int,e = .returned (.int .i64 n)∧decide (0≤n)=holds l t∧Keep [] w w':=by
 have HR:=jX hr;have Hb:=jX hb;have HC:=jX (fun i w hb=>yhC i t w gt hb);obtain⟨ao,ac,rfl,_⟩:=hr.form;clear hr hb;unfold holds;generalize hP:(fun i:Iv K=>decide (i.f≤⟨t,false⟩∧(⟨t,true⟩:Bd K)≤i.l))=P at *;have HP:=jX hP;clear hP;go_enter func161,ntmps161
 go_wp2_with fail;go_loopw [5,8] (fun _ c wr=>∃ k:Nat,k≤l.length∧c = .int .i64 (k:Int)∧(l.take k).any P=false∧Keep [] w wr) (fun _ c _=>l.length-(intOf c).toNat)
 case atStart=>exact ⟨0,Nat.zero_le _,rfl,rfl,Keep.refl _ _⟩
 case round =>
  obtain⟨k,hk,rfl,hno,hkeep⟩:=hrel;have Hno:=jX hno;have HKr:=jX hkeep;clear hno hkeep;by_cases hlt:k<l.length
  ·obtain⟨g,o,rfl,hg,hat⟩:=IvR.elem (HR.out.later HKr.out) k hlt
   have Hnx:=jX (any_take P l k hlt Hno.out);obtain⟨i,hi⟩:∃ i,l[k]=i:=⟨_,rfl⟩;rw [hi] at Hnx hat;have H1:=jX (HC.out i wr (HKr.out.heap Hb.out (by simp)));obtain⟨p,hp⟩:∃ p,o+k*20=p:=⟨_,rfl⟩;rw [hp] at hat;have HL:=jX (yaJ wr g p i hat);have hPi:decide (i.f≤⟨t,false⟩∧(⟨t,true⟩:Bd K)≤i.l)=P i:=by rw [← HP.out]
   have HPi:=jX hPi;rw [hPi] at H1;clear hi hat hPi;have hiv:iv i = .agg (iC i):=rfl;rw [hiv] at H1 HL;clear hiv;generalize P i=r at *;generalize iC i=I at *;go_upto_region 4 with (fail)
   refine wp_region_lit ?_;refine wV ?_;go_simp;refine wV ?_;go_simp;refine wV ?_;go_simp;refine wV ?_;go_simp;refine wX (v:=.agg I) ⟨g,p,none⟩ (HL.out) ?_;go_simp;refine wpList_plain (by rfl) (fun K hK=>?_);refine yaf 115 #[.agg I,.pointer (some ⟨gt,0,none⟩)] (by go_simp) ?_;refine H1.out.mono ?_;rintro e w3 ⟨rfl,hk3⟩;refine ⟨_,rfl,?_⟩;go_simp;go_step
   have HKx:=jX (HKr.out.tz hk3);clear hk3 H1 HL HPi;cases r with
   | true =>
    go_wp2_with fail;go_ret
    exact ⟨(k:Int),rfl,by rw [any_early P l _ Hnx.out];exact decide_eq_true (by omega),HKx.out⟩
   | false =>
    go_wp2_with fail;go_roundw
    case rel=>exact ⟨k+1,by omega,congrArg (Value.int .i64) (by omega),Hnx.out,HKx.out⟩
    case measure=>simp [intOf];omega
  have hkl:l.take k=l:=List.take_of_length_le (by omega);have HF:Hid (l.any P=false):=by rw [← hkl];exact Hno.out
  clear hkl Hno;go_wp2_with fail;go_ret
  exact ⟨-1,rfl,by rw [HF.out];rfl,HKr.out⟩
theorem contF_c (l:List (Iv K)) (t:K) (gt:Nat) (w:World) (hb:w.heap[gt]? = some (.cells (kC t) 30)) (sv:Value) (hr:IvR w sv l) (h9:l.length≤1000000000) :
  Calls prog 114 #[sv,.func (.func 115) #[] #[.pointer (some ⟨gt,0,none⟩)]] w fun e w'=>e = .returned (.bool (holds l t))∧Keep [] w w':=by
 have H:=jX (index_c l t gt w hb sv hr h9);obtain⟨ao,ac,rfl,_⟩:=hr.form;clear hr hb;go_enter func114,ntmps114
 go_wp2_with fail;refine H.out.mono ?_;rintro e w2 ⟨n,rfl,hn,hk⟩;dsimp only;have HK:=jX hk;clear hk;go_wp2_with fail;go_ret
 exact ⟨rfl,HK.out⟩
theorem yjd (l:List (Iv K)) (t:K) (w:World) (sv:Value) (hr:IvR w sv l) (h9:l.length≤1000000000) :
  Calls prog 56 #[sv,kv t] w fun e w'=>e = .returned (.bool (holds l t))∧Keep [] w w':=by
 have HR:=jX hr;have HC:=jX (fun w gt hb sv hr=>contF_c l t gt w hb sv hr h9);obtain⟨ao,ac,rfl,_⟩:=hr.form;clear hr h9;show Calls prog 56 #[_,.agg (kC t)] w _
 go_enter func56,ntmps56
 go_upto_region 1 with (fail)
 obtain⟨W,ga,hW,ega,Bga,hga,hgW,HkW⟩:=al1h w (.cells (kC t) 30);rw [← hW];try rw [ega]
 clear hW ega;have H:=jX (HC.out W ga Bga.out _ (HR.out.later HkW.out));clear HC;go_wp2_with fail;refine H.out.mono ?_;rintro e w2 ⟨rfl,hk⟩;dsimp only;have HK:=jX (HkW.out.tz hk);clear hk;go_wp2_with fail;go_ret
 exact ⟨rfl,HK.out⟩
end
section
open Classical
structure RawI where
 f:RawR
 t:RawR
 o:Bool
 c:Bool
def RawI.cells (r:RawI):List Value:=r.f.cells++r.t.cells++[.bool r.o,.bool r.c]
def RawI.C (r:RawI):Array Value:=r.cells.toArray
def RawI.v (r:RawI):Value:=.agg r.C
def RawI.of (i:Iv K):RawI:=⟨RawR.of i.f.pt.1,RawR.of i.l.pt.1,i.f.beh,!i.l.beh⟩
theorem RawI.of_v (i:Iv K):(RawI.of i).v=iv i:=rfl
theorem RawI.of_inj {i j:Iv K} (h:RawI.of i=RawI.of j):i=j:=by
 unfold RawI.of at h;injection h with h1 h2 h3 h4;have e1:i.f.pt=j.f.pt:=Subtype.ext (RawR.of_inj h1);have e2:i.l.pt=j.l.pt:=Subtype.ext (RawR.of_inj h2);have e4:i.l.beh=j.l.beh:=by simpa using h4
 obtain⟨⟨a,b⟩,⟨c,d⟩⟩:=i;obtain⟨⟨a',b'⟩,⟨c',d'⟩⟩:=j;dsimp only at *;subst e1 e2 h3 e4;rfl
def RawI.sz (r:RawI) (k:Nat):Prop:=r.f.sz k∧r.t.sz k
theorem RawR.toK {x:RawR} (h:x.isK) (hs:x.sz 100000):∃ k:K,x=RawR.of k.1:=by
 obtain⟨q,hq,rfl⟩:=h
 have hd:∀ n:Nat,(dnS n).size≤100000→Fit 100000 (n:Int):=fun n h=>by
  unfold dnS at h;unfold Fit mgS;rw [Int.natAbs_natCast];split at h
  ·rename_i h1;rw [h1];exact Nat.le_trans ((yaT 1 1).2 (by decide)) (by decide)
  exact h
 obtain⟨s1,s2,s3,s4⟩:=hs;exact ⟨⟨q,hq,⟨s1,hd _ s2⟩,⟨s3,hd _ s4⟩⟩,rfl⟩
theorem RawI.toI {r:RawI} (h1:r.f.isK) (h2:r.t.isK) (hs:r.sz 100000):∃ i:Iv K,r=RawI.of i:=by
 obtain⟨a,ha⟩:=RawR.toK h1 hs.1;obtain⟨b,hb⟩:=RawR.toK h2 hs.2;obtain⟨f,t,o,c⟩:=r;dsimp only at *;subst ha hb;exact ⟨⟨⟨a,o⟩,⟨b,!c⟩⟩,by unfold RawI.of;simp⟩
noncomputable def eI (r:RawI):Int:=if h:∃ i:Iv K,r=RawI.of i then (if h.choose.f<h.choose.l then 0 else 10) else 5
theorem eI_of (i:Iv K):eI (RawI.of i)=if i.f<i.l then 0 else 10:=by
 have h:∃ j:Iv K,RawI.of i=RawI.of j:=⟨i,rfl⟩;unfold eI;rw [dif_pos h,← RawI.of_inj h.choose_spec]
theorem eI_no {r:RawI} (h:¬ (r.f.isK∧r.t.isK)):eI r=5:=dif_neg (by
 rintro ⟨i,rfl⟩
 exact h ⟨⟨_,i.f.pt.2.1,rfl⟩,⟨_,i.l.pt.2.1,rfl⟩⟩)
theorem ydW (x:RawR):x.cells.length=9:=rfl
theorem yiD (w:World) (b o:Nat) (x:RawR) (hc:∀ k v,x.cells[k]? = some v→w.cell? ⟨b,o+k,none⟩=some v):(loadVar 30 ⟨b,o,none⟩).run prog w = .ok x.v w:=by
 obtain⟨ie,hie,hs⟩:=infoReal;exact Go.Lib.rl_loadVar_cells 30 ie hie isAgg30 b o x.cells (by rw [hs];rfl) w hc
theorem ydv (w:World) (b o:Nat) (r:RawI) (hc:∀ k v,r.cells[k]? = some v→w.cell? ⟨b,o+k,none⟩=some v):(loadVar 32 ⟨b,o,none⟩).run prog w = .ok r.v w:=by
 obtain⟨ie,hie,hs⟩:=infoIv;exact Go.Lib.rl_loadVar_cells 32 ie hie isAgg32 b o r.cells (by rw [hs];rfl) w hc
def RIAt (w:World) (b o:Nat) (r:RawI):Prop:=∀ k v,r.cells[k]? = some v→w.cell? ⟨b,o+k,none⟩=some v
theorem RIAt.frm {w:World} {b o:Nat} {r:RawI} (h:RIAt w b o r):∀ k v,r.f.cells[k]? = some v→w.cell? ⟨b,o+k,none⟩=some v:=fun k v hk=>by
 refine h k v ?_;have hl:k<9:=by have:=(List.getElem?_eq_some_iff.1 hk).1;rwa [ydW] at this
 unfold RawI.cells;rw [List.append_assoc,List.getElem?_append_left (by rw [ydW];exact hl)];exact hk
theorem RIAt.upto {w:World} {b o:Nat} {r:RawI} (h:RIAt w b o r):∀ k v,r.t.cells[k]? = some v→w.cell? ⟨b,o+9+k,none⟩=some v:=fun k v hk=>by
 have hl:k<9:=by have:=(List.getElem?_eq_some_iff.1 hk).1;rwa [ydW] at this
 have:=h (9+k) v (by
  unfold RawI.cells;rw [List.append_assoc,List.getElem?_append_right (by rw [ydW];omega),ydW,List.getElem?_append_left (by rw [ydW];omega),Nat.add_sub_cancel_left]
  exact hk)
 rwa [← Nat.add_assoc] at this
theorem yfY {w:World} {g:Nat} {r:RawI} {t:TypeId} (h:w.heap[g]? = some (.cells r.C t)):RIAt w g 0 r:=fun k v hk=>by
 rw [Nat.zero_add,yab h];exact (List.getElem?_toArray ..).trans hk
end
section
open Classical
section
variable {P:Program} {ops:Array Oper} {Q:Exit→Act→World→Prop}
theorem ygm {rest:List Oper} {o:Oper} {a:Act} {w:World} (hw:Region.wanted o (yielded ops a.tmps)=true)
  (h:∀ K:Act→World→Prop,(∀ a w,wpList P ops Q rest a w→K a w)→o.wp P a w K Q):wpList P ops Q (o :: rest) a w:=by
 unfold wpList;rw [if_pos hw];exact .inl (h _ fun _ _ h=>h)
theorem yee {rest:List Oper} {o:Oper} {a:Act} {w:World} {v:Value} (hw:Region.wanted o (yielded ops a.tmps)=true) (h:(execOp a.eval o).run P w = .ok (.value v) w)
  (hk:∀ K:Act→World→Prop,(∀ a w,wpList P ops Q rest a w→K a w)→K (a.put o.dst v) w):wpList P ops Q (o :: rest) a w:=ygm hw fun K hK=>ybK v w h (hk K hK)
end
theorem pci_p (r:RawI) (hs:r.sz 100000) (w:World):Calls prog 17 #[r.v] w fun e w'=>e = .returned (.int .i64 (eI r))∧Below w.heap.size w w':=by
 have H1:=jX (rchk_p r.f ⟨Nat.le_trans hs.1.1 (by decide),Nat.le_trans hs.1.2.1 (by decide),Nat.le_trans hs.1.2.2.1 (by decide),Nat.le_trans hs.1.2.2.2 (by decide)⟩);have H2:=jX (rchk_p r.t ⟨Nat.le_trans hs.2.1 (by decide),Nat.le_trans hs.2.2.1 (by decide),Nat.le_trans hs.2.2.2.1 (by decide),Nat.le_trans hs.2.2.2.2 (by decide)⟩);have HLd:=jX (fun (u:World) (g:Nat) (h:u.heap[g]? = some (.cells r.C 32))=>And.intro (yiD u g 0 r.f (yfY h).frm) (yiD u g (0+9) r.t (yfY h).upto));have hv:r.v = .agg r.C:=rfl;by_cases hf:r.f.isK
 ·rw [decide_eq_true hf,show errF true = .int .i64 0 from rfl] at H1
  by_cases ht:r.t.isK
  ·rw [decide_eq_true ht,show errF true = .int .i64 0 from rfl] at H2
   obtain⟨i,hi⟩:=RawI.toI hf ht hs;have he:eI r=if i.f<i.l then 0 else 10:=by rw [hi,eI_of]
   have HLi:=jX (fun (u:World) (g:Nat) (h:u.heap[g]? = some (.cells r.C 32))=>ydv u g 0 r (yfY h));have H3:=jX (yfi i);have H4:=jX (yhl i);have H5:=jX (yfk i.f i.l);have hiv:iv i = .agg r.C:=by rw [hi];rfl
   have hcm:(0≤cmpB i.f i.l) ↔ ¬ i.f<i.l:=by
    have h0:=yfo i.f i.l;constructor
    ·intro h h2
     have:=h0.2 h2;omega
    intro h;exact Int.not_lt.1 fun h2=>h (h0.1 h2)
   rw [he,hv];rw [hiv] at H3 H4;rw [hv] at HLi;unfold bv at H3 H4 H5;generalize (bcells i.f).toArray=BF at *;generalize (bcells i.l).toArray=BL at *;generalize cmpB i.f i.l=n at *;clear hf ht hs hi he hiv hv;generalize r.f.v=fv at *;generalize r.t.v=tv at *;generalize r.C=C at *;by_cases hlt:i.f<i.l
   ·have hn:¬ 0≤n:=fun h=>(hcm.1 h) hlt
    rw [if_pos hlt];clear hcm hlt;go_enter func17,ntmps17
    go_upto_region 1 with (fail)
    obtain⟨W,ga,hW,ega,Bga,hga,hgW,HkW⟩:=al1h w (.cells C 32);rw [← hW];try rw [ega]
    clear hW ega;have HF:=jX ((HLd.out W ga Bga.out).1);have HT:=jX ((HLd.out W ga Bga.out).2);refine wp_region_lit ?_;refine wV ?_;go_simp;refine wX (v:=fv) ⟨ga,0,none⟩ (HF.out) ?_;go_simp;refine wpList_plain (by rfl) (fun K hK=>?_);refine yaf 75 #[fv] (by go_simp) ?_;refine (H1.out _).mono ?_;rintro e w1 ⟨rfl,hb1⟩;refine ⟨_,rfl,?_⟩;go_simp;go_step
    have HB1:=jX (HkW.out.bz.trans (Below.mono hb1 HkW.out.size));have B2ga:=jX ((hb1.block ga (yaa Bga.out)).trans Bga.out);clear Bga;have Bga:=B2ga;clear B2ga;have HT:=jX ((HLd.out w1 ga Bga.out).2);clear hb1 HF;refine wV ?_;go_simp;refine wV ?_;go_simp;refine' yee (v:=_) (by rfl) (?hd1) (fun K hK=>?kd1)
    case hd1=>(go_simp;try rfl)
    go_simp;go_step
    refine yee (v:=tv) (by rfl) (yan _ _ ⟨ga,9,none⟩ _ rfl rfl HT.out) (fun K hK=>?_);go_simp;go_step
    refine ygm (by rfl) (fun K hK=>?_);refine yaf 75 #[tv] (by go_simp) ?_;refine (H2.out _).mono ?_;rintro e w2 ⟨rfl,hb2⟩;refine ⟨_,rfl,?_⟩;go_simp;go_step
    have HB2:=jX (HB1.out.trans (Below.mono hb2 HB1.out.size));have B2ga:=jX ((hb2.block ga (yaa Bga.out)).trans Bga.out);clear Bga;have Bga:=B2ga;clear B2ga;clear hb2 HT;go_wp2_with fail;have HX:Hid (∀ m:KW w2,(loadVar 32 ⟨ga,0,none⟩).run prog (Wk w2 m) = .ok (.agg C) (Wk w2 m)):=fun m=>HLi.out _ ga (m.k.heap Bga.out (by simp));have Q3:Hid (∀ m:KW w2,Calls prog 77 #[.agg C] (Wk w2 m) fun e w'=>e = .returned (.agg BF)∧∃ m,w'=Wk w2 m):=fun m=>qk m (H3.out _);have Q4:Hid (∀ m:KW w2,Calls prog 78 #[.agg C] (Wk w2 m) fun e w'=>e = .returned (.agg BL)∧∃ m,w'=Wk w2 m):=fun m=>qk m (H4.out _);have Q5:Hid (∀ m:KW w2,Calls prog 76 #[.agg BF,.agg BL] (Wk w2 m) fun e w'=>e = .returned (.int .i64 n)∧∃ m,w'=Wk w2 m):=fun m=>qk m (H5.out _);refine yad (by kernel_rfl) (by kernel_rfl) ?_
    repeat (first
     | go_big_quiet_skip
     | (go_big_quiet_want;first
      | (refine yaj _ _ _ (.agg C) rfl rfl (by rintro _ ⟨m,rfl⟩;exact HX.out m) ?_;go_simp;go_big_quiet_on)
      | (go_big_quiet_op;first|go_big_quiet_on|go_big_quiet_call (first
       | (go_at_call 77;with_reducible exact (Q3).out _)|(go_at_call 78;with_reducible exact (Q4).out _)|(go_at_call 76;with_reducible exact (Q5).out _)))))
    refine wpQuiet_nil ?_;rintro w3 ⟨⟨_,hk_w3⟩,rfl⟩;have HB3:=jX (HB2.out.trans (Below.mono hk_w3.bz HB2.out.size));clear hk_w3;go_wp2_with fail;go_ret
    exact ⟨rfl,HB3.out⟩
   have hn:0≤n:=hcm.2 hlt;rw [if_neg hlt];clear hcm hlt;go_enter func17,ntmps17
   go_upto_region 1 with (fail)
   obtain⟨W,ga,hW,ega,Bga,hga,hgW,HkW⟩:=al1h w (.cells C 32);rw [← hW];try rw [ega]
   clear hW ega;have HF:=jX ((HLd.out W ga Bga.out).1);have HT:=jX ((HLd.out W ga Bga.out).2);refine wp_region_lit ?_;refine wV ?_;go_simp;refine wX (v:=fv) ⟨ga,0,none⟩ (HF.out) ?_;go_simp;refine wpList_plain (by rfl) (fun K hK=>?_);refine yaf 75 #[fv] (by go_simp) ?_;refine (H1.out _).mono ?_;rintro e w1 ⟨rfl,hb1⟩;refine ⟨_,rfl,?_⟩;go_simp;go_step
   have HB1:=jX (HkW.out.bz.trans (Below.mono hb1 HkW.out.size));have B2ga:=jX ((hb1.block ga (yaa Bga.out)).trans Bga.out);clear Bga;have Bga:=B2ga;clear B2ga;have HT:=jX ((HLd.out w1 ga Bga.out).2);clear hb1 HF;refine wV ?_;go_simp;refine wV ?_;go_simp;refine' yee (v:=_) (by rfl) (?hd4) (fun K hK=>?kd4)
   case hd4=>(go_simp;try rfl)
   go_simp;go_step
   refine yee (v:=tv) (by rfl) (yan _ _ ⟨ga,9,none⟩ _ rfl rfl HT.out) (fun K hK=>?_);go_simp;go_step
   refine ygm (by rfl) (fun K hK=>?_);refine yaf 75 #[tv] (by go_simp) ?_;refine (H2.out _).mono ?_;rintro e w2 ⟨rfl,hb2⟩;refine ⟨_,rfl,?_⟩;go_simp;go_step
   have HB2:=jX (HB1.out.trans (Below.mono hb2 HB1.out.size));have B2ga:=jX ((hb2.block ga (yaa Bga.out)).trans Bga.out);clear Bga;have Bga:=B2ga;clear B2ga;clear hb2 HT;go_wp2_with fail;have HX:Hid (∀ m:KW w2,(loadVar 32 ⟨ga,0,none⟩).run prog (Wk w2 m) = .ok (.agg C) (Wk w2 m)):=fun m=>HLi.out _ ga (m.k.heap Bga.out (by simp));have Q3:Hid (∀ m:KW w2,Calls prog 77 #[.agg C] (Wk w2 m) fun e w'=>e = .returned (.agg BF)∧∃ m,w'=Wk w2 m):=fun m=>qk m (H3.out _);have Q4:Hid (∀ m:KW w2,Calls prog 78 #[.agg C] (Wk w2 m) fun e w'=>e = .returned (.agg BL)∧∃ m,w'=Wk w2 m):=fun m=>qk m (H4.out _);have Q5:Hid (∀ m:KW w2,Calls prog 76 #[.agg BF,.agg BL] (Wk w2 m) fun e w'=>e = .returned (.int .i64 n)∧∃ m,w'=Wk w2 m):=fun m=>qk m (H5.out _);refine yad (by kernel_rfl) (by kernel_rfl) ?_
   repeat (first
    | go_big_quiet_skip
    | (go_big_quiet_want;first
     | (refine yaj _ _ _ (.agg C) rfl rfl (by rintro _ ⟨m,rfl⟩;exact HX.out m) ?_;go_simp;go_big_quiet_on)
     | (go_big_quiet_op;first|go_big_quiet_on|go_big_quiet_call (first
      | (go_at_call 77;with_reducible exact (Q3).out _)|(go_at_call 78;with_reducible exact (Q4).out _)|(go_at_call 76;with_reducible exact (Q5).out _)))))
   refine wpQuiet_nil ?_;rintro w3 ⟨⟨_,hk_w3⟩,rfl⟩;have HB3:=jX (HB2.out.trans (Below.mono hk_w3.bz HB2.out.size));clear hk_w3;go_wp2_with fail;go_ret
   exact ⟨rfl,HB3.out⟩
  rw [decide_eq_false ht,show errF false = .int .i64 5 from rfl] at H2
  have he:eI r=5:=eI_no (fun h=>ht h.2);rw [he,hv];clear hf ht hs he hv;generalize r.f.v=fv at *;generalize r.t.v=tv at *;generalize r.C=C at *;go_enter func17,ntmps17
  go_upto_region 1 with (fail)
  obtain⟨W,ga,hW,ega,Bga,hga,hgW,HkW⟩:=al1h w (.cells C 32);rw [← hW];try rw [ega]
  clear hW ega;have HF:=jX ((HLd.out W ga Bga.out).1);have HT:=jX ((HLd.out W ga Bga.out).2);refine wp_region_lit ?_;refine wV ?_;go_simp;refine wX (v:=fv) ⟨ga,0,none⟩ (HF.out) ?_;go_simp;refine wpList_plain (by rfl) (fun K hK=>?_);refine yaf 75 #[fv] (by go_simp) ?_;refine (H1.out _).mono ?_;rintro e w1 ⟨rfl,hb1⟩;refine ⟨_,rfl,?_⟩;go_simp;go_step
  have HB1:=jX (HkW.out.bz.trans (Below.mono hb1 HkW.out.size));have B2ga:=jX ((hb1.block ga (yaa Bga.out)).trans Bga.out);clear Bga;have Bga:=B2ga;clear B2ga;have HT:=jX ((HLd.out w1 ga Bga.out).2);clear hb1 HF;refine wV ?_;go_simp;refine wV ?_;go_simp;refine' yee (v:=_) (by rfl) (?hd2) (fun K hK=>?kd2)
  case hd2=>(go_simp;try rfl)
  go_simp;go_step
  refine yee (v:=tv) (by rfl) (yan _ _ ⟨ga,9,none⟩ _ rfl rfl HT.out) (fun K hK=>?_);go_simp;go_step
  refine ygm (by rfl) (fun K hK=>?_);refine yaf 75 #[tv] (by go_simp) ?_;refine (H2.out _).mono ?_;rintro e w2 ⟨rfl,hb2⟩;refine ⟨_,rfl,?_⟩;go_simp;go_step
  have HB2:=jX (HB1.out.trans (Below.mono hb2 HB1.out.size));have B2ga:=jX ((hb2.block ga (yaa Bga.out)).trans Bga.out);clear Bga;have Bga:=B2ga;clear B2ga;clear hb2 HT;go_wp2_with fail;go_ret
  exact ⟨rfl,HB2.out⟩
 rw [decide_eq_false hf,show errF false = .int .i64 5 from rfl] at H1
 have he:eI r=5:=eI_no (fun h=>hf h.1);rw [he,hv];clear hf hs he hv H2;generalize r.f.v=fv at *;generalize r.t.v=tv at *;generalize r.C=C at *;go_enter func17,ntmps17
 go_upto_region 1 with (fail)
 obtain⟨W,ga,hW,ega,Bga,hga,hgW,HkW⟩:=al1h w (.cells C 32);rw [← hW];try rw [ega]
 clear hW ega;have HF:=jX ((HLd.out W ga Bga.out).1);have HT:=jX ((HLd.out W ga Bga.out).2);refine wp_region_lit ?_;refine wV ?_;go_simp;refine wX (v:=fv) ⟨ga,0,none⟩ (HF.out) ?_;go_simp;refine wpList_plain (by rfl) (fun K hK=>?_);refine yaf 75 #[fv] (by go_simp) ?_;refine (H1.out _).mono ?_;rintro e w1 ⟨rfl,hb1⟩;refine ⟨_,rfl,?_⟩;go_simp;go_step
 have HB1:=jX (HkW.out.bz.trans (Below.mono hb1 HkW.out.size));have B2ga:=jX ((hb1.block ga (yaa Bga.out)).trans Bga.out);clear Bga;have Bga:=B2ga;clear B2ga;have HT:=jX ((HLd.out w1 ga Bga.out).2);clear hb1 HF;go_wp2_with fail;go_ret
 exact ⟨rfl,HB1.out⟩
end
section
open Classical
noncomputable def chkL:Option (Iv K)→List RawI→Int
 | _,[]=>0
 | p, r :: l => if h : ∃ i : Iv K, r = RawI.of i then
   (if h.choose.f<h.choose.l then
    (match p with
    | none=>chkL (some h.choose) l
    | some b=>if h.choose.f.pt<b.l.pt∨h.choose.f<b.l then 11 else if b.l=h.choose.f then 5 else chkL (some h.choose) l)
   else 10)
  else 5
theorem chkL_err {r:RawI} (h:eI r≠0) (p:Option (Iv K)) (l:List RawI):chkL p (r :: l)=eI r:=by
 unfold chkL eI at *;by_cases hx:∃ i:Iv K,r=RawI.of i
 ·rw [dif_pos hx] at h ⊢
  rw [dif_pos hx];by_cases hl:hx.choose.f<hx.choose.l
  ·rw [if_pos hl] at h
   exact absurd rfl h
  rw [if_neg hl,if_neg hl]
 rw [dif_neg hx,dif_neg hx]
theorem eI_zero {r:RawI} (h:eI r=0):∃ i:Iv K,r=RawI.of i∧i.f<i.l:=by
 unfold eI at h;by_cases hx:∃ i:Iv K,r=RawI.of i
 ·rw [dif_pos hx] at h
  by_cases hl:hx.choose.f<hx.choose.l
  ·exact ⟨hx.choose,hx.choose_spec,hl⟩
  rw [if_neg hl] at h;exact absurd h (by decide)
 rw [dif_neg hx] at h;exact absurd h (by decide)
theorem yfv {i:Iv K} (h:i.f<i.l) (l:List RawI):chkL none (RawI.of i :: l)=chkL (some i) l:=by
 have hx:∃ j:Iv K,RawI.of i=RawI.of j:=⟨i,rfl⟩;have he:hx.choose=i:=(RawI.of_inj hx.choose_spec).symm;rw [chkL,dif_pos hx];simp only [he];rw [if_pos h]
theorem yhp {i b:Iv K} (h:i.f<i.l) (l:List RawI):chkL (some b) (RawI.of i :: l)=if i.f.pt<b.l.pt∨i.f<b.l then 11 else if b.l=i.f then 5 else chkL (some i) l:=by
 have hx:∃ j:Iv K,RawI.of i=RawI.of j:=⟨i,rfl⟩;have he:hx.choose=i:=(RawI.of_inj hx.choose_spec).symm;rw [chkL,dif_pos hx];simp only [he];rw [if_pos h]
abbrev RIR:=RowE (fun r:RawI=>r.cells)
theorem rawi_len (r:RawI):r.cells.length=20:=rfl
theorem RIR.elem {w:World} {a:Option Addr} {n c:Nat} {l:List RawI} (h:RIR w (.slice a n c) l) (i:Nat) (hi:i<l.length):∃ g o,a=some ⟨g,o,none⟩∧g<w.heap.size∧RIAt w g (o+i*20) l[i]:=RowE.elem rawi_len h i hi
def RIQ (w:World) (sv:Value) (l:List RawI):Prop:=∃ a c,sv = .slice a l.length c∧(l=[]∨RIR w sv l)
theorem RIQ.elem {w:World} {a:Option Addr} {n c:Nat} {l:List RawI} (h:RIQ w (.slice a n c) l) (i:Nat) (hi:i<l.length):∃ g o,a=some ⟨g,o,none⟩∧g<w.heap.size∧RIAt w g (o+i*20) l[i]:=by
 obtain⟨_,_,_,h⟩:=h;rcases h with rfl|h
 ·exact absurd hi (Nat.not_lt_zero _)
 exact h.elem i hi
theorem RowE.laterB {α:Type} {enc:α→List Value} {w w':World} {sv:Value} {l:List α} (h:RowE enc w sv l) (hb:Below w.heap.size w w'):RowE enc w' sv l:=by
 rcases h with h|⟨g,o,c,rfl,hc,hg,hx⟩
 ·exact .inl h
 refine .inr ⟨g,o,c,rfl,hc,Nat.lt_of_lt_of_le hg hb.size,fun i v hv=>?_⟩;rw [World.cell?_of_block (hb.block g hg)];exact hx i v hv
theorem RIQ.laterB {w w':World} {sv:Value} {l:List RawI} (h:RIQ w sv l) (hb:Below w.heap.size w w'):RIQ w' sv l:=by
 obtain⟨a,c,h1,h2⟩:=h;exact ⟨a,c,h1,h2.imp id (fun h=>h.laterB hb)⟩
def ChkAt (l:List RawI) (k:Nat) (p:Option (Iv K)):Prop:=chkL none l=chkL p (l.drop k)∧(k=0→p=none)∧(∀ j (hj:j<l.length),k=j+1→∃ b:Iv K,p=some b∧l[j]=RawI.of b)
theorem ChkAt.start (l:List RawI):ChkAt l 0 none:=⟨rfl,fun _=>rfl,fun j _ h=>by omega⟩
theorem ChkAt.err {l:List RawI} {k:Nat} {p:Option (Iv K)} (h:ChkAt l k p) (hk:k<l.length) (he:eI l[k]≠0):chkL none l=eI l[k]:=by
 rw [h.1,List.drop_eq_getElem_cons hk];exact chkL_err he _ _
theorem ChkAt.zero {l:List RawI} {p:Option (Iv K)} (h:ChkAt l 0 p) (hk:0<l.length) {i:Iv K} (hi:l[0]=RawI.of i) (hv:i.f<i.l):ChkAt l 1 (some i):=by
 have hp:=h.2.1 rfl;subst hp;refine ⟨?_,fun h=>by omega,fun j hj h=>?_⟩
 ·have h1:=h.1
  rw [List.drop_eq_getElem_cons hk,hi,yfv hv] at h1;exact h1
 obtain rfl:j=0:=by omega
 exact ⟨i,rfl,hi⟩
theorem ChkAt.next {l:List RawI} {j:Nat} {p:Option (Iv K)} (h:ChkAt l (j+1) p) (hk:j+1<l.length) {i:Iv K} (hi:l[j+1]=RawI.of i) (hv:i.f<i.l) :
  ∃ b:Iv K,l[j]'(by omega)=RawI.of b∧((i.f.pt<b.l.pt∨i.f<b.l)→chkL none l=11)∧(¬ (i.f.pt<b.l.pt∨i.f<b.l)→b.l=i.f→chkL none l=5)∧(¬ (i.f.pt<b.l.pt∨i.f<b.l)→b.l≠i.f→ChkAt l (j+2) (some i)):=by
 obtain⟨b,rfl,hb⟩:=h.2.2 j (by omega) rfl;have h1:=h.1;rw [List.drop_eq_getElem_cons hk,hi,yhp hv] at h1;refine ⟨b,hb,fun ho=>by rw [h1,if_pos ho],fun ho he=>by rw [h1,if_neg ho,if_pos he],fun ho he=>⟨by rw [h1,if_neg ho,if_neg he],fun h=>by omega,fun j' hj' h=>?_⟩⟩;obtain rfl:j'=j+1:=by omega
 exact ⟨i,rfl,hi⟩
theorem ChkAt.done {l:List RawI} {p:Option (Iv K)} (h:ChkAt l l.length p):chkL none l=0:=by
 rw [h.1,List.drop_length];rfl
end
end Go.Proofs.YtpgffjjpiafhpaaGreatDoor
