/- Parts of a proof about this translation: Vb, Mb, Vc, Vd, Vk, Vi, Me, Mi. -/
import Derived.IntWalk
import Derived.Lib.SliceRun
import Derived.Test.YtejegogbhpmgfaaGreatDoorA32
import Derived.Test.YtejegogbhpmgfaaGreatDoorA25
import Derived.Test.YtejegogbhpmgfaaGreatDoorA30
set_option linter.unusedVariables false
set_option linter.unusedSimpArgs false
set_option maxRecDepth 100000
set_option maxHeartbeats 8000000
namespace Go.Proofs.YtejegogbhpmgfaaGreatDoor
open Go.RowKit
open Classical
structure MP (S:List K) (w0 w:World) (L:List (Value × List (Iv K))):Prop where
 mi:MI w0 w L
 per:∀ p∈L,Per S p.2
 few:S.length≤1000
section
variable {S:List K} {w0 w w':World} {L:List (Value × List (Iv K))}
theorem MP.start (h:S.length≤1000) (w:World):MP S w w []:=⟨MI.start w,by simp,h⟩
theorem MP.move (h:MP S w0 w L) (hk:Keep [] w w'):MP S w0 w' L:=⟨h.mi.move hk,h.per,h.few⟩
theorem MP.add (h:MP S w0 w L) {v:Value} {l:List (Iv K)} (hk:Keep [] w w') (hv:IvR w' v l) (hp:Per S l):MP S w0 w' ((v,l) :: L) :=
 ⟨h.mi.add hk hv,fun p hp'=>by
  rcases List.mem_cons.1 hp' with rfl|hp'
  ·exact hp
  ·exact h.per p hp',h.few⟩
theorem MP.keep (h:MP S w0 w L):Keep [] w0 w:=h.mi.1
theorem MP.get (h:MP S w0 w L) {v:Value} {l:List (Iv K)} (hm:(v,l)∈L):IvR w v l:=h.mi.2 _ hm
theorem MP.val (h:MP S w0 w L) {v:Value} {l:List (Iv K)} (hm:(v,l)∈L):∀ i∈l,i.f<i.l:=(h.per _ hm).norm.val
theorem MP.len (h:MP S w0 w L) {v:Value} {l:List (Iv K)} (hm:(v,l)∈L):l.length≤2000:=by have:=(h.per _ hm).len;have:=h.few;dsimp only at *;omega
def PerPost (S:List K) (w0:World) (L:List (Value × List (Iv K))) (m:List (Iv K)) (e:Ending) (w':World):Prop:=∃ a c,e = .returned (.slice a m.length c)∧MP S w0 w' ((.slice a m.length c,m) :: L)
theorem perPost_of (h:MP S w0 w L) {m:List (Iv K)} (hp:Per S m) {f:Nat} {args:Array Value} (hc:Calls Tryz.prog f args w fun e w'=>∃ v,e = .returned v∧IvR w' v m∧Keep [] w w'):Calls Tryz.prog f args w (PerPost S w0 L m) :=
 hc.mono fun e w' ⟨v,he,hv,hk⟩=>by
  obtain⟨a,c,rfl,_⟩:=hv.form
  exact ⟨a,c,he,h.add hk hv hp⟩
variable {v u:Value} {a b:List (Iv K)}
theorem MP.combP (h:MP S w0 w L) (op:Int) (hv:(v,a)∈L) (hu:(u,b)∈L):Per S (combK op a b):=combK_per op (h.per _ hv).pts (h.per _ hu).pts
theorem MP.union (h:MP S w0 w L) (hv:(v,a)∈L) (hu:(u,b)∈L):Calls Tryz.prog 70 #[v,u] w (PerPost S w0 L (combK 1 a b)) :=
 perPost_of h (h.combP 1 hv hu) (Union_p a b (h.val hv) (h.val hu) w v u (h.get hv) (h.get hu) (by have:=h.len hv;omega) (by have:=h.len hu;omega))
theorem MP.inter (h:MP S w0 w L) (hv:(v,a)∈L) (hu:(u,b)∈L):Calls Tryz.prog 71 #[v,u] w (PerPost S w0 L (combK 2 a b)) :=
 perPost_of h (h.combP 2 hv hu) (Intersect_p a b (h.val hv) (h.val hu) w v u (h.get hv) (h.get hu) (by have:=h.len hv;omega) (by have:=h.len hu;omega))
theorem MP.minus (h:MP S w0 w L) (hv:(v,a)∈L) (hu:(u,b)∈L):Calls Tryz.prog 66 #[v,u] w (PerPost S w0 L (combK 3 a b)) :=
 perPost_of h (h.combP 3 hv hu) (Minus_p a b (h.val hv) (h.val hu) w v u (h.get hv) (h.get hu) (by have:=h.len hv;omega) (by have:=h.len hu;omega))
theorem MP.comb (h:MP S w0 w L) {op:Int} (hop:op=1∨op=2∨op=3) (hv:(v,a)∈L) (hu:(u,b)∈L):Calls Tryz.prog 50 #[.int .i64 op,v,u] w (PerPost S w0 L (combK op a b)) :=
 perPost_of h (h.combP op hv hu) (rcombine_c op hop a b w v u (h.get hv) (h.get hu) (by have:=h.len hv;omega) (by have:=h.len hu;omega))
theorem MP.rnorm (h:MP S w0 w L) (hv:(v,a)∈L):Calls Tryz.prog 88 #[v] w (PerPost S w0 L a):=by
 have:=rnormal_c a w v (h.get hv) (by have:=h.len hv;omega)
 rw [normK_self (h.per _ hv).norm] at this
 exact perPost_of h (h.per _ hv) this
def BoolPost (S:List K) (w0:World) (L:List (Value × List (Iv K))) (r:Bool) (e:Ending) (w':World):Prop:=e = .returned (.bool r)∧MP S w0 w' L
theorem boolPost_of (h:MP S w0 w L) {r:Bool} {f:Nat} {args:Array Value} (hc:Calls Tryz.prog f args w fun e w'=>e = .returned (.bool r)∧Keep [] w w'):Calls Tryz.prog f args w (BoolPost S w0 L r) :=
 hc.mono fun e w' ⟨he,hk⟩=>⟨he,h.move hk⟩
end
theorem dec1 (a b:Bool):decV 1 a b=(a || b):=rfl
theorem dec2 (a b:Bool):decV 2 a b=(a&&b):=rfl
theorem dec3 (a b:Bool):decV 3 a b=(a && !b):=rfl
theorem perOf_in {l:List SpanA} {S:List K} (h:∀ x∈ptsL (ivsOf l),x∈S):Per S (perOf l):=⟨perOf_norm l,(perOf_per l).pts.mono h⟩
theorem MP.period {S:List K} {w0 w:World} {L:List (Value × List (Iv K))} (h:MP S w0 w L) {l:List SpanA} {sv:Value} (hr:SpQ w0 sv l) (h9:l.length≤9223372036854775807) (hS:∀ x∈ptsL (ivsOf l),x∈S) :
  Calls Tryz.prog 45 #[sv] w (PerPost S w0 L (perOf l)):=perPost_of h (perOf_in hS) (lperiod_c l w sv (hr.later h.keep) h9)
end Go.Proofs.YtejegogbhpmgfaaGreatDoor
namespace Go.Proofs.YtejegogbhpmgfaaGreatDoor
def SubL (T D:List (Iv K)):Prop:=∀ x,hasL T x=true→hasL D x=true
section
variable {D T E U G V P:List (Iv K)}
theorem sub_mk (T D:List (Iv K)):SubL (combK 2 T D) D:=fun x h=>by
 rw [combK_has,dec2,Bool.and_eq_true] at h
 exact h.2
end
end Go.Proofs.YtejegogbhpmgfaaGreatDoor
namespace Go.Proofs.YtejegogbhpmgfaaGreatDoor
open Go.RowKit
open Classical
theorem cmpB_le (a b:Bd K):cmpB a b≤0↔a≤b:=by
 rcases cmpB_tri a b with ⟨h,g⟩|⟨h,g⟩|⟨h,g⟩
 ·rw [h];exact ⟨fun h2=>absurd h2 (by decide),fun h2=>by grind⟩
 ·rw [h];exact ⟨fun _=>by grind,fun _=>by decide⟩
 ·rw [h];exact ⟨fun _=>by grind,fun _=>by decide⟩
theorem bd_built (x:K) (o:Bool):Tryz.prog.built 110 [(0,kv x),(1,.bool o)]=some (bC ⟨x,o⟩):=border_built _ _ _ _ _ _ _ _
theorem contains1_c (i:Iv K) (t:K) (w:World) (g:Nat) (hb:w.heap[g]? = some (.cells (kC t) 36)) :
  Calls Tryz.prog 104 #[iv i,.pointer (some ⟨g,0,none⟩)] w fun e w'=>e = .returned (.bool (decide (i.f≤⟨t,false⟩∧(⟨t,true⟩:Bd K)≤i.l)))∧Keep [] w w':=by
 have HF:=jX (fun w=>first_c i w)
 have HL:=jX (fun w=>last_c i w)
 have HC1:=jX (fun w=>bcmp_c i.f ⟨t,false⟩ w)
 have HC2:=jX (fun w=>bcmp_c ⟨t,true⟩ i.l w)
 have B1:=jX (bd_built t false)
 have B2:=jX (bd_built t true)
 have hd1:decide (cmpB i.f ⟨t,false⟩≤0)=decide (i.f≤⟨t,false⟩):=by rw [Bool.eq_iff_iff,decide_eq_true_iff,decide_eq_true_iff];exact cmpB_le _ _
 have hd2:decide (cmpB ⟨t,true⟩ i.l≤0)=decide ((⟨t,true⟩:Bd K)≤i.l):=by rw [Bool.eq_iff_iff,decide_eq_true_iff,decide_eq_true_iff];exact cmpB_le _ _
 have hres:decide (i.f≤⟨t,false⟩∧(⟨t,true⟩:Bd K)≤i.l)=(decide (cmpB i.f ⟨t,false⟩≤0)&&decide (cmpB ⟨t,true⟩ i.l≤0)):=by rw [hd1,hd2,Bool.decide_and]
 rw [hres]
 clear hd1 hd2 hres
 generalize cmpB i.f ⟨t,false⟩=n1 at *
 generalize cmpB ⟨t,true⟩ i.l=n2 at *
 have ho:iv i = .agg (iC i):=rfl
 have hk:kv t = .agg (kC t):=rfl
 have e1:bv i.f = .agg (bC i.f):=rfl
 have e2:bv i.l = .agg (bC i.l):=rfl
 have e3:bv ⟨t,false⟩ = .agg (bC ⟨t,false⟩):=rfl
 have e4:bv ⟨t,true⟩ = .agg (bC ⟨t,true⟩):=rfl
 rw [ho]
 rw [ho,e1] at HF
 rw [ho,e2] at HL
 rw [e1,e3] at HC1
 rw [e2,e4] at HC2
 rw [hk] at B1 B2
 clear ho hk e1 e2 e3 e4
 by_cases h1:n1≤0
 ·have hd:decide (n1≤0)=true:=decide_eq_true h1
  rw [hd,Bool.true_and]
  go_enter Tryz.func104,Tryz.ntmps104
  go_upto_region 1 with (fail)
  obtain⟨W,ga,hW,ega,bga,hga,hgW,hkW⟩:=al1 w (.cells (iC i) 49)
  rw [← hW]
  try rw [ega]
  have Bga:=jX bga
  have HkW:=jX hkW
  clear hW hkW ega bga
  have HLi:=jX ((ivAt_box Bga.out).ld (lt_of_heap Bga.out))
  have HLt:=jX (kw_k (HkW.out.heap hb (by simp)))
  have hiv:iv i = .agg (iC i):=rfl
  have hkv:kv t = .agg (kC t):=rfl
  rw [hiv] at HLi
  rw [hkv] at HLt
  clear hiv hkv hb Bga
  have Q1:Hid (∀ m:KW W,Calls Tryz.prog 106 #[.agg (iC i)] (Wk W m) fun e w'=>e = .returned (.agg (bC i.f))∧∃ m,w'=Wk W m):=fun m=>qk m (HF.out _)
  have Q2:Hid (∀ m:KW W,Calls Tryz.prog 107 #[.agg (iC i)] (Wk W m) fun e w'=>e = .returned (.agg (bC i.l))∧∃ m,w'=Wk W m):=fun m=>qk m (HL.out _)
  have Q3:Hid (∀ m:KW W,Calls Tryz.prog 105 #[.agg (bC i.f),.agg (bC ⟨t,false⟩)] (Wk W m) fun e w'=>e = .returned (.int .i64 n1)∧∃ m,w'=Wk W m):=fun m=>qk m (HC1.out _)
  have Q4:Hid (∀ m:KW W,Calls Tryz.prog 105 #[.agg (bC ⟨t,true⟩),.agg (bC i.l)] (Wk W m) fun e w'=>e = .returned (.int .i64 n2)∧∃ m,w'=Wk W m):=fun m=>qk m (HC2.out _)
  clear HF HL HC1 HC2
  generalize iC i=I at *
  generalize kC t=T at *
  generalize bC i.f=F at *
  generalize bC i.l=L at *
  generalize bC ⟨t,false⟩=T0 at *
  generalize bC ⟨t,true⟩=T1 at *
  refine wp_region_keep (by kernel_rfl) (by kernel_rfl) ?_
  repeat (first
   | go_big_quiet_skip
   | (go_big_quiet_want;first
    | (refine quiet_load _ _ _ (.agg I) rfl rfl (by rintro _ ⟨m,rfl⟩;exact HLi.out m) ?_;go_simp;go_big_quiet_on)|(refine quiet_load _ _ _ (.agg T) rfl rfl (by rintro _ ⟨m,rfl⟩;exact HLt.out m) ?_;go_simp;go_big_quiet_on)|(refine quiet_build _ _ #[(0,.agg T),(1,.bool false)] (T0) rfl (by simp only [List.map_toArray,List.map_cons,List.map_nil];rfl) B1.out ?_;go_simp;go_big_quiet_on)|(refine quiet_build _ _ #[(0,.agg T),(1,.bool true)] (T1) rfl (by simp only [List.map_toArray,List.map_cons,List.map_nil];rfl) B2.out ?_;go_simp;go_big_quiet_on)
    | (go_big_quiet_op;first|go_big_quiet_on|go_big_quiet_call (first
     | (go_at_call 106;with_reducible exact (Q1).out _)|(go_at_call 107;with_reducible exact (Q2).out _)|(go_at_call 105;with_reducible exact (Q3).out _)|(go_at_call 105;with_reducible exact (Q4).out _)))))
  refine wpQuiet_nil ?_
  rintro w2 ⟨⟨_,hk_w2⟩,rfl⟩
  go_wp2_with fail
  go_ret
  exact ⟨rfl,HkW.out.trans0 hk_w2⟩
 ·have hd:decide (n1≤0)=false:=decide_eq_false h1
  rw [hd,Bool.false_and]
  go_enter Tryz.func104,Tryz.ntmps104
  go_upto_region 1 with (fail)
  obtain⟨W,ga,hW,ega,bga,hga,hgW,hkW⟩:=al1 w (.cells (iC i) 49)
  rw [← hW]
  try rw [ega]
  have Bga:=jX bga
  have HkW:=jX hkW
  clear hW hkW ega bga
  have HLi:=jX ((ivAt_box Bga.out).ld (lt_of_heap Bga.out))
  have HLt:=jX (kw_k (HkW.out.heap hb (by simp)))
  have hiv:iv i = .agg (iC i):=rfl
  have hkv:kv t = .agg (kC t):=rfl
  rw [hiv] at HLi
  rw [hkv] at HLt
  clear hiv hkv hb Bga
  have Q1:Hid (∀ m:KW W,Calls Tryz.prog 106 #[.agg (iC i)] (Wk W m) fun e w'=>e = .returned (.agg (bC i.f))∧∃ m,w'=Wk W m):=fun m=>qk m (HF.out _)
  have Q2:Hid (∀ m:KW W,Calls Tryz.prog 107 #[.agg (iC i)] (Wk W m) fun e w'=>e = .returned (.agg (bC i.l))∧∃ m,w'=Wk W m):=fun m=>qk m (HL.out _)
  have Q3:Hid (∀ m:KW W,Calls Tryz.prog 105 #[.agg (bC i.f),.agg (bC ⟨t,false⟩)] (Wk W m) fun e w'=>e = .returned (.int .i64 n1)∧∃ m,w'=Wk W m):=fun m=>qk m (HC1.out _)
  have Q4:Hid (∀ m:KW W,Calls Tryz.prog 105 #[.agg (bC ⟨t,true⟩),.agg (bC i.l)] (Wk W m) fun e w'=>e = .returned (.int .i64 n2)∧∃ m,w'=Wk W m):=fun m=>qk m (HC2.out _)
  clear HF HL HC1 HC2
  generalize iC i=I at *
  generalize kC t=T at *
  generalize bC i.f=F at *
  generalize bC i.l=L at *
  generalize bC ⟨t,false⟩=T0 at *
  generalize bC ⟨t,true⟩=T1 at *
  refine wp_region_keep (by kernel_rfl) (by kernel_rfl) ?_
  repeat (first
   | go_big_quiet_skip
   | (go_big_quiet_want;first
    | (refine quiet_load _ _ _ (.agg I) rfl rfl (by rintro _ ⟨m,rfl⟩;exact HLi.out m) ?_;go_simp;go_big_quiet_on)|(refine quiet_load _ _ _ (.agg T) rfl rfl (by rintro _ ⟨m,rfl⟩;exact HLt.out m) ?_;go_simp;go_big_quiet_on)|(refine quiet_build _ _ #[(0,.agg T),(1,.bool false)] (T0) rfl (by simp only [List.map_toArray,List.map_cons,List.map_nil];rfl) B1.out ?_;go_simp;go_big_quiet_on)|(refine quiet_build _ _ #[(0,.agg T),(1,.bool true)] (T1) rfl (by simp only [List.map_toArray,List.map_cons,List.map_nil];rfl) B2.out ?_;go_simp;go_big_quiet_on)
    | (go_big_quiet_op;first|go_big_quiet_on|go_big_quiet_call (first
     | (go_at_call 106;with_reducible exact (Q1).out _)|(go_at_call 107;with_reducible exact (Q2).out _)|(go_at_call 105;with_reducible exact (Q3).out _)|(go_at_call 105;with_reducible exact (Q4).out _)))))
  refine wpQuiet_nil ?_
  rintro w2 ⟨⟨_,hk_w2⟩,rfl⟩
  go_wp2_with fail
  go_ret
  exact ⟨rfl,HkW.out.trans0 hk_w2⟩
theorem any_take {α:Type} (p:α→Bool) (l:List α) (k:Nat) (h:k<l.length) (hno:(l.take k).any p=false):(l.take (k+1)).any p=p l[k]:=by
 rw [List.take_succ_eq_append_getElem h,List.any_append,hno];simp
theorem any_early {α:Type} (p:α→Bool) (l:List α) (k:Nat) (h:(l.take k).any p=true):l.any p=true:=by
 rw [List.any_eq_true] at h ⊢
 obtain⟨x,hx,h⟩:=h
 exact ⟨x,List.mem_of_mem_take hx,h⟩
theorem index_c (l:List (Iv K)) (t:K) (gt:Nat) (w:World) (hb:w.heap[gt]? = some (.cells (kC t) 36)) (sv:Value) (hr:IvR w sv l) (h9:l.length≤1000000000) :
  Calls Tryz.prog 143 #[sv,.func (.func 104) #[] #[.pointer (some ⟨gt,0,none⟩)]] w fun e w'=>∃ n:Int,e = .returned (.int .i64 n)∧decide (0≤n)=holds l t∧Keep [] w w':=by
 have HR:=jX hr
 have Hb:=jX hb
 have HC:=jX (fun i w hb=>contains1_c i t w gt hb)
 obtain⟨ao,ac,rfl,_⟩:=hr.form
 clear hr hb
 unfold holds
 generalize hP:(fun i:Iv K=>decide (i.f≤⟨t,false⟩∧(⟨t,true⟩:Bd K)≤i.l))=P at *
 have HP:=jX hP
 clear hP
 go_enter Tryz.func143,Tryz.ntmps143
 go_wp2_with fail
 go_loopw [5,8] (fun _ c wr=>∃ k:Nat,k≤l.length∧c = .int .i64 (k:Int)∧(l.take k).any P=false∧Keep [] w wr) (fun _ c _=>l.length-(intOf c).toNat)
 case atStart=>exact ⟨0,Nat.zero_le _,rfl,rfl,Keep.refl _ _⟩
 case round =>
  obtain⟨k,hk,rfl,hno,hkeep⟩:=hrel
  have Hno:=jX hno
  have HKr:=jX hkeep
  clear hno hkeep
  by_cases hlt:k<l.length
  ·obtain⟨g,o,rfl,hg,hat⟩:=IvR.elem (HR.out.later HKr.out) k hlt
   have Hnx:=jX (any_take P l k hlt Hno.out)
   obtain⟨i,hi⟩:∃ i,l[k]=i:=⟨_,rfl⟩
   rw [hi] at Hnx hat
   have H1:=jX (HC.out i wr (HKr.out.heap Hb.out (by simp)))
   obtain⟨p,hp⟩:∃ p,o+k*20=p:=⟨_,rfl⟩
   rw [hp] at hat
   have HL:=jX (load_iv wr g p i hat)
   have hPi:decide (i.f≤⟨t,false⟩∧(⟨t,true⟩:Bd K)≤i.l)=P i:=by rw [← HP.out]
   have HPi:=jX hPi
   rw [hPi] at H1
   clear hi hat hPi
   have hiv:iv i = .agg (iC i):=rfl
   rw [hiv] at H1 HL
   clear hiv
   generalize P i=r at *
   generalize iC i=I at *
   go_upto_region 4 with (fail)
   refine wp_region_lit ?_
   refine' wpList_R (v:=_) (by rfl) (?hruna) (fun K hK=>?hnexta)
   case hruna=>(go_simp;try rfl)
   go_simp
   refine hK _ _ ?_
   clear hK K
   refine' wpList_R (v:=_) (by rfl) (?hrunb) (fun K hK=>?hnextb)
   case hrunb=>(go_simp;try rfl)
   go_simp
   refine hK _ _ ?_
   clear hK K
   refine' wpList_R (v:=_) (by rfl) (?hrunc) (fun K hK=>?hnextc)
   case hrunc=>(go_simp;try rfl)
   go_simp
   refine hK _ _ ?_
   clear hK K
   refine' wpList_R (v:=_) (by rfl) (?hrund) (fun K hK=>?hnextd)
   case hrund=>(go_simp;try rfl)
   go_simp
   refine hK _ _ ?_
   clear hK K
   refine wpList_R (v:=.agg I) (by rfl) (exec_load _ _ ⟨g,p,none⟩ _ rfl rfl HL.out) (fun K hK=>?_)
   go_simp
   refine hK _ _ ?_
   clear hK K
   refine wpList_plain (by rfl) (fun K hK=>?_)
   refine wp_enter 104 #[.agg I,.pointer (some ⟨gt,0,none⟩)] (by go_simp) ?_
   refine H1.out.mono ?_
   rintro e w3 ⟨rfl,hk3⟩
   refine ⟨_,rfl,?_⟩
   go_simp
   refine hK _ _ ?_
   clear hK K
   have HKx:=jX (HKr.out.trans0 hk3)
   clear hk3 H1 HL HPi
   cases r with
   | true =>
    go_wp2_with fail
    go_ret
    exact ⟨(k:Int),rfl,by rw [any_early P l _ Hnx.out];exact decide_eq_true (by omega),HKx.out⟩
   | false =>
    go_wp2_with fail
    go_roundw
    case rel=>exact ⟨k+1,by omega,congrArg (Value.int .i64) (by omega),Hnx.out,HKx.out⟩
    case measure=>simp [intOf];omega
  ·have hkl:l.take k=l:=List.take_of_length_le (by omega)
   have HF:Hid (l.any P=false):=by rw [← hkl];exact Hno.out
   clear hkl Hno
   go_wp2_with fail
   go_ret
   exact ⟨-1,rfl,by rw [HF.out];rfl,HKr.out⟩
theorem contF_c (l:List (Iv K)) (t:K) (gt:Nat) (w:World) (hb:w.heap[gt]? = some (.cells (kC t) 36)) (sv:Value) (hr:IvR w sv l) (h9:l.length≤1000000000) :
  Calls Tryz.prog 103 #[sv,.func (.func 104) #[] #[.pointer (some ⟨gt,0,none⟩)]] w fun e w'=>e = .returned (.bool (holds l t))∧Keep [] w w':=by
 have H:=jX (index_c l t gt w hb sv hr h9)
 obtain⟨ao,ac,rfl,_⟩:=hr.form
 clear hr hb
 go_enter Tryz.func103,Tryz.ntmps103
 go_wp2_with fail
 refine H.out.mono ?_
 rintro e w2 ⟨n,rfl,hn,hk⟩
 dsimp only
 have HK:=jX hk
 clear hk
 go_wp2_with fail
 go_ret
 exact ⟨rfl,HK.out⟩
theorem contains_c (l:List (Iv K)) (t:K) (w:World) (sv:Value) (hr:IvR w sv l) (h9:l.length≤1000000000) :
  Calls Tryz.prog 65 #[sv,kv t] w fun e w'=>e = .returned (.bool (holds l t))∧Keep [] w w':=by
 have HR:=jX hr
 have HC:=jX (fun w gt hb sv hr=>contF_c l t gt w hb sv hr h9)
 obtain⟨ao,ac,rfl,_⟩:=hr.form
 clear hr h9
 show Calls Tryz.prog 65 #[_,.agg (kC t)] w _
 go_enter Tryz.func65,Tryz.ntmps65
 go_upto_region 1 with (fail)
 obtain⟨W,ga,hW,ega,bga,hga,hgW,hkW⟩:=al1 w (.cells (kC t) 36)
 rw [← hW]
 try rw [ega]
 have Bga:=jX bga
 have HkW:=jX hkW
 clear hW hkW ega bga
 have H:=jX (HC.out W ga Bga.out _ (HR.out.later HkW.out))
 clear HC
 go_wp2_with fail
 refine H.out.mono ?_
 rintro e w2 ⟨rfl,hk⟩
 dsimp only
 have HK:=jX (HkW.out.trans0 hk)
 clear hk
 go_wp2_with fail
 go_ret
 exact ⟨rfl,HK.out⟩
end Go.Proofs.YtejegogbhpmgfaaGreatDoor
namespace Go.Proofs.YtejegogbhpmgfaaGreatDoor
open Go.RowKit
open Go.ChangeShapes Go.WideShapes Go.ChangeAt
theorem agg_of_cells {v:Value} {l:List Value} (h:v.cells.toList=l) (hl:l.length≠1):v = .agg l.toArray:=by
 cases v with
 | agg c=>subst h;simp [Value.cells]
 | _=>subst h;exact absurd rfl hl
structure FrA where
 num:Int
 den:Int
 up:Nat
 down:Nat
 hn : -9223372036854775808≤num∧num≤9223372036854775807
 hd : -9223372036854775808≤den∧den≤9223372036854775807
 hu:up≤255
 hw:down≤255
def FrA.v (a:FrA):Value:=.agg #[.int .i64 a.num,.int .i64 a.den,.int .u8 a.up,.int .u8 a.down]
end Go.Proofs.YtejegogbhpmgfaaGreatDoor
namespace Go.Proofs.YtejegogbhpmgfaaGreatDoor
open Go.RowKit
theorem IvR.laterBox {u u':World} {v:Value} {l:List (Iv K)} {g:Nat} {cs:Array Value} {t:TypeId} (h:IvR u v l) (hb:u.heap[g]? = some (.cells cs t)) (hs:cs.size<20) (hk:Keep [g] u u'):IvR u' v l:=by
 rcases h with h|⟨g',o,c,rfl,hc,hg,hx⟩
 ·exact .inl h
 ·refine .inr ⟨g',o,c,rfl,hc,Nat.lt_of_lt_of_le hg hk.size,fun i v hv=>?_⟩
  by_cases hgg:g'=g
  ·subst hgg
   exfalso
   cases l with
   | nil=>simp at hv
   | cons x r =>
    have:=hx 19 (.bool (!x.l.beh)) (by rw [List.flatMap_cons,List.getElem?_append_left (by rw [icells_len];decide)];rfl)
    rw [cell_of hb] at this
    have:=(Array.getElem?_eq_some_iff.1 this).1
    omega
  ·rw [World.cell?_of_block (hk.block g' hg (by simp;exact hgg))]
   exact hx i v hv
end Go.Proofs.YtejegogbhpmgfaaGreatDoor
namespace Go.Proofs.YtejegogbhpmgfaaGreatDoor
open Go.RowKit
open Classical
theorem OI_.rowI {w0 w:World} {v:Value} {l:List (Iv K)} (h:OI_ w0 w v l):IvR w v l:=h.read
theorem clone_c (l:List (Iv K)) (w:World) (sv:Value) (hr:IvR w sv l) (h9:l.length≤100000) :
  Calls Tryz.prog 73 #[sv] w fun e w'=>∃ v,e = .returned v∧OI_ w w' v l:=by
 have HR:=jX hr
 have q22:∀ (w:World) (a:Option Addr) (n c n' c':Nat),(binOp .eql 27 (.slice a n c) (.slice none n' c')).run Tryz.prog w = .ok (.bool a.isNone) w:=fun w a n c n' c'=>Lib.run_eql_slice_nil w _ _ a n c n' c' Tryz.underlying27
 rcases hr with ⟨rfl,rfl⟩|⟨g,o,c,rfl,hc,hg,_⟩
 ·clear HR
  go_enter Tryz.func73,Tryz.ntmps73
  go_wp2_with fail
  go_ret
  exact ⟨_,rfl,OE.nil w⟩
 ·clear hg hc
  go_enter Tryz.func73,Tryz.ntmps73
  go_upto_region 3 with (fail)
  refine wp_region_lit ?_
  obtain⟨ub,gx,e3,e4,hz1,hx⟩:=OI_.start w
  refine wpList_K (v:=.slice (some ⟨w.heap.size,0,none⟩) 0 0) (by rfl) (exec_bs 27 0 #[] #[] _ rfl (by simp) (build0_i w)) (fun K hK=>?_)
  rw [e3,e4]
  clear e3
  go_simp
  refine hK _ _ ?_
  clear hK K
  refine' wpList_R (v:=_) (by rfl) (?hruna) (fun K hK=>?hnexta)
  case hruna=>(go_simp;try rfl)
  go_simp
  refine hK _ _ ?_
  clear hK K
  obtain⟨v4,u4,hr4,ho4,hn4,_⟩:=IvR.app (ty:=27) hx (.inl (by simp [Value.ownBlock])) (HR.out.later hx.keep) (by simp;omega)
  refine wpList_K (by rfl) (exec_app (.tmp 5) (.tmp 6) 27 _ _ _ rfl rfl rfl hr4) (fun K hK=>?_)
  go_simp
  refine hK _ _ ?_
  clear hK K hr4
  have HN:=jX ho4
  clear ho4 hn4 hx
  go_wp2_with fail
  go_ret
  exact ⟨_,rfl,HN.out⟩
section
variable {S:List K} {w0 w w' W:World} {L M:List (Value × List (Iv K))}
theorem MP.here (h:MP S w0 w L):MP S w w L:=⟨⟨Keep.refl _ _,h.mi.2⟩,h.per,h.few⟩
theorem MP.fin (hk0:Keep [] w0 w) (hkW:Keep [] w W) (h:MP S W w' L) {g:Nat} {cs:Array Value} {t:TypeId} {u:World} (hb:w'.heap[g]? = some (.cells cs t)) (hs:cs.size<20) (hg:w.heap.size≤g) (hk:Keep [g] w' u) (hm:∀ p∈M,p∈L):MP S w0 u M :=
 ⟨⟨hk0.trans0 ((hkW.trans0 h.mi.1).trans hk (by simp;exact hg)),fun p hp=>(h.mi.2 p (hm p hp)).laterBox hb hs hk⟩,fun p hp=>h.per p (hm p hp),h.few⟩
variable {v u:Value} {a b:List (Iv K)}
theorem MP.cont (h:MP S w0 w L) (hv:(v,a)∈L) (t:K):Calls Tryz.prog 65 #[v,kv t] w (BoolPost S w0 L (holds a t)) :=
 boolPost_of h (contains_c a t w v (h.get hv) (by have:=h.len hv;omega))
theorem MP.hold (h:MP S w0 w L) (hv:(v,a)∈L) (t:K):Calls Tryz.prog 23 #[v,kv t] w (BoolPost S w0 L (holds a t)) :=
 boolPost_of h (holds_c a t w v (h.get hv) (by have:=h.len hv;omega))
theorem MP.clone (h:MP S w0 w L) (hv:(v,a)∈L):Calls Tryz.prog 73 #[v] w (PerPost S w0 L a) :=
 perPost_of h (h.per _ hv) ((clone_c a w v (h.get hv) (by have:=h.len hv;omega)).mono fun e w' ⟨v,he,ho⟩=>⟨v,he,ho.rowI,ho.keep⟩)
end
def BolPost (S:List K) (w0:World) (L:List (Value × List (Iv K))) (D T:List (Iv K)) (e:Ending) (w':World):Prop :=
 ∃ a c b d,e = .returned (.agg #[.slice a D.length c,.slice b T.length d])∧MP S w0 w' ((.slice a D.length c,D) :: (.slice b T.length d,T) :: L)
section
variable {S:List K} {w0 w:World} {L:List (Value × List (Iv K))} {D T E U P:List (Iv K)} {da ta ea ua pa:Option Addr} {dc tc ec uc pc:Nat}
theorem MP.mlift (h:MP S w0 w L) (hD:(.slice da D.length dc,D)∈L) (hT:(.slice ta T.length tc,T)∈L) (hE:(.slice ea E.length ec,E)∈L) (hU:(.slice ua U.length uc,U)∈L) (hP:(.slice pa P.length pc,P)∈L) :
  Calls Tryz.prog 72 #[.agg #[.slice da D.length dc,.slice ta T.length tc],.agg #[.slice ea E.length ec,.slice ua U.length uc],.slice pa P.length pc] w (BolPost S w0 L (combK 2 D E) (combK 2 (combK 2 D E) P)):=by
 have hP:=jX hP
 have H0:=jX h
 have hD:=jX hD
 have hT:=jX hT
 have hE:=jX hE
 have hU:=jX hU
 clear h
 go_enter Tryz.func72,Tryz.ntmps72
 go_upto_region 1 with (fail)
 obtain⟨W,ga,gb,gc,hW,ega,egb,egc,bga,bgb,bgc,hga,hgb,hgc,hgW,hkW⟩:=al3 w (.cells #[.slice da D.length dc,.slice ta T.length tc] 29) (.cells #[.slice ea E.length ec,.slice ua U.length uc] 29) (.cells #[.slice none 0 0,.slice none 0 0] 29)
 rw [← hW]
 try rw [egc]
 try rw [egb]
 try rw [ega]
 have Bga:=jX bga
 have Bgb:=jX bgb
 have Bgc:=jX bgc
 have HkW:=jX hkW
 clear hW hkW ega egb egc bga bgb bgc
 have HM:=jX (H0.out.here.move HkW.out).here
 have pga:=cell_of Bga.out
 have pgb:=cell_of Bgb.out
 go_wp2_with fail
 refine (HM.out.inter (v:=.slice da D.length dc) (a:=D) (u:=.slice ea E.length ec) (b:=E) (by simp [hD.out,hT.out,hE.out,hU.out]) (by simp [hD.out,hT.out,hE.out,hU.out])).mono ?_
 rintro e w1 ⟨vo_w1,vc_w1,rfl,hm_w1⟩
 dsimp only
 have HM:=jX hm_w1
 clear hm_w1
 clear pga pgb
 go_wp2_with fail
 refine (HM.out.inter (v:=.slice vo_w1 (combK 2 D E).length vc_w1) (a:=combK 2 D E) (u:=.slice pa P.length pc) (b:=P) (by simp) (by simp [hP.out])).mono ?_
 rintro e w2 ⟨vo_w2,vc_w2,rfl,hm_w2⟩
 dsimp only
 have HM:=jX hm_w2
 clear hm_w2
 have bz:=jX (HM.out.keep.heap Bgc.out (by simp))
 have pgc:=cell_of bz.out
 have fgc:=frozen_of bz.out
 have lgc:=lt_of_heap bz.out
 go_wp2_with fail
 obtain⟨u9,e9,b9,k9⟩:=st2 (x:=.slice vo_w1 (combK 2 D E).length vc_w1) (y:=.slice vo_w2 (combK 2 (combK 2 D E) P).length vc_w2) bz.out
 rw [← e9]
 clear e9 pgc fgc lgc
 have pgc:=cell_of b9
 refine bodyPost_ret (v:=.agg #[.slice vo_w1 (combK 2 D E).length vc_w1,.slice vo_w2 (combK 2 (combK 2 D E) P).length vc_w2]) ?_ rfl ⟨_,_,_,_,rfl,MP.fin H0.out.keep HkW.out HM.out bz.out (by simp) (by omega) k9 ?_⟩
 ·rw [results_cell1 rfl];go_simp
 ·intro p hp;simp only [List.mem_cons] at hp ⊢;grind
end
section
variable {S:List K} {w0 w:World} {L:List (Value × List (Iv K))} {D T E U P:List (Iv K)} {da ta ea ua pa:Option Addr} {dc tc ec uc pc:Nat}
theorem MP.rmake (h:MP S w0 w L) (hD:(.slice da D.length dc,D)∈L) (hT:(.slice ta T.length tc,T)∈L) :
  Calls Tryz.prog 60 #[.slice da D.length dc,.slice ta T.length tc] w (BolPost S w0 L D (combK 2 T D)):=by
 have H0:=jX h
 have hD:=jX hD
 have hT:=jX hT
 clear h
 go_enter Tryz.func60,Tryz.ntmps60
 go_upto_region 1 with (fail)
 obtain⟨W,ga,hW,ega,bga,hga,hgW,hkW⟩:=al1 w (.cells #[.slice none 0 0,.slice none 0 0] 29)
 rw [← hW]
 try rw [ega]
 have Bga:=jX bga
 have HkW:=jX hkW
 clear hW hkW ega bga
 have HM:=jX (H0.out.here.move HkW.out).here
 go_wp2_with fail
 refine (HM.out.rnorm (v:=.slice da D.length dc) (a:=D) (by simp [hD.out,hT.out])).mono ?_
 rintro e w1 ⟨vo_w1,vc_w1,rfl,hm_w1⟩
 dsimp only
 have HM:=jX hm_w1
 clear hm_w1
 go_wp2_with fail
 refine (HM.out.comb (op:=2) (by simp) (v:=.slice ta T.length tc) (a:=T) (u:=.slice da D.length dc) (b:=D) (by simp [hD.out,hT.out]) (by simp [hD.out,hT.out])).mono ?_
 rintro e w2 ⟨vo_w2,vc_w2,rfl,hm_w2⟩
 dsimp only
 have HM:=jX hm_w2
 clear hm_w2
 have bz:=jX (HM.out.keep.heap Bga.out (by simp))
 have pga:=cell_of bz.out
 have fga:=frozen_of bz.out
 have lga:=lt_of_heap bz.out
 go_wp2_with fail
 obtain⟨u9,e9,b9,k9⟩:=st2 (x:=.slice vo_w1 (D).length vc_w1) (y:=.slice vo_w2 (combK 2 T D).length vc_w2) bz.out
 rw [← e9]
 clear e9 pga fga lga
 have pga:=cell_of b9
 refine bodyPost_ret (v:=.agg #[.slice vo_w1 (D).length vc_w1,.slice vo_w2 (combK 2 T D).length vc_w2]) ?_ rfl ⟨_,_,_,_,rfl,MP.fin H0.out.keep HkW.out HM.out bz.out (by simp) (by omega) k9 ?_⟩
 ·rw [results_cell1 rfl];go_simp
 ·intro p hp;simp only [List.mem_cons] at hp ⊢;grind
theorem MP.mand (h:MP S w0 w L) (hD:(.slice da D.length dc,D)∈L) (hT:(.slice ta T.length tc,T)∈L) (hE:(.slice ea E.length ec,E)∈L) (hU:(.slice ua U.length uc,U)∈L) :
  Calls Tryz.prog 29 #[.agg #[.slice da D.length dc,.slice ta T.length tc],.agg #[.slice ea E.length ec,.slice ua U.length uc]] w (BolPost S w0 L (combK 2 D E) (combK 2 (combK 2 D E) (combK 2 T U))):=by
 have H0:=jX h
 have hD:=jX hD
 have hT:=jX hT
 have hE:=jX hE
 have hU:=jX hU
 clear h
 go_enter Tryz.func29,Tryz.ntmps29
 go_upto_region 1 with (fail)
 obtain⟨W,ga,gb,gc,hW,ega,egb,egc,bga,bgb,bgc,hga,hgb,hgc,hgW,hkW⟩:=al3 w (.cells #[.slice da D.length dc,.slice ta T.length tc] 29) (.cells #[.slice ea E.length ec,.slice ua U.length uc] 29) (.cells #[.slice none 0 0,.slice none 0 0] 29)
 rw [← hW]
 try rw [egc]
 try rw [egb]
 try rw [ega]
 have Bga:=jX bga
 have Bgb:=jX bgb
 have Bgc:=jX bgc
 have HkW:=jX hkW
 clear hW hkW ega egb egc bga bgb bgc
 have HM:=jX (H0.out.here.move HkW.out).here
 refine wp_region_heldT (S:=fun u=>Keep [] W u) 8 (by kernel_rfl) (by kernel_rfl) (fun _ _ d _ _ h=>by cases d<;>exact h) ?_
 have HM:=jX (HM.out.move (Keep.drew [] W))
 generalize World.drew W=u at *
 have hS0:=HM.out.keep
 refine' jV (v:=_) 0 hS0 (fun w hw=>?hrunf0) (fun K hK=>?hnextf0)
 case hrunf0=>(have pga:=cell_of (hw.heap Bga.out (by simp));have pgb:=cell_of (hw.heap Bgb.out (by simp));go_simp;try rfl)
 go_simp
 refine hK _ ?_
 clear hK K
 refine' jV (v:=_) 1 hS0 (fun w hw=>?hrunf1) (fun K hK=>?hnextf1)
 case hrunf1=>(have pga:=cell_of (hw.heap Bga.out (by simp));have pgb:=cell_of (hw.heap Bgb.out (by simp));go_simp;try rfl)
 go_simp
 refine hK _ ?_
 clear hK K
 refine' jV (v:=_) 2 hS0 (fun w hw=>?hrunf2) (fun K hK=>?hnextf2)
 case hrunf2=>(have pga:=cell_of (hw.heap Bga.out (by simp));have pgb:=cell_of (hw.heap Bgb.out (by simp));go_simp;try rfl)
 go_simp
 refine hK _ ?_
 clear hK K
 refine' jV (v:=_) 3 hS0 (fun w hw=>?hrunf3) (fun K hK=>?hnextf3)
 case hrunf3=>(have pga:=cell_of (hw.heap Bga.out (by simp));have pgb:=cell_of (hw.heap Bgb.out (by simp));go_simp;try rfl)
 go_simp
 refine hK _ ?_
 clear hK K
 refine' jV (v:=_) 4 hS0 (fun w hw=>?hrunf4) (fun K hK=>?hnextf4)
 case hrunf4=>(have pga:=cell_of (hw.heap Bga.out (by simp));have pgb:=cell_of (hw.heap Bgb.out (by simp));go_simp;try rfl)
 go_simp
 refine hK _ ?_
 clear hK K
 refine' jV (v:=_) 5 hS0 (fun w hw=>?hrunf5) (fun K hK=>?hnextf5)
 case hrunf5=>(have pga:=cell_of (hw.heap Bga.out (by simp));have pgb:=cell_of (hw.heap Bgb.out (by simp));go_simp;try rfl)
 go_simp
 refine hK _ ?_
 clear hK K
 refine jO 6 (fun K hK=>?_)
 refine wp_enter 71 #[.slice ta T.length tc,.slice ua U.length uc] (by go_simp) ?_
 refine (HM.out.inter (v:=.slice ta T.length tc) (a:=T) (u:=.slice ua U.length uc) (b:=U) (by simp [hD.out,hT.out,hE.out,hU.out]) (by simp [hD.out,hT.out,hE.out,hU.out])).mono ?_
 rintro e w1 ⟨vo_w1,vc_w1,rfl,hm_w1⟩
 have HM:=jX hm_w1
 clear hm_w1
 refine ⟨_,rfl,?_⟩
 have hS0:=HM.out.keep
 go_simp
 refine hK _ _ hS0 ?_
 clear hK K
 refine jO 7 (fun K hK=>?_)
 refine wp_enter 72 #[.agg #[.slice da D.length dc,.slice ta T.length tc],.agg #[.slice ea E.length ec,.slice ua U.length uc],.slice vo_w1 (combK 2 T U).length vc_w1] (by go_simp) ?_
 refine (HM.out.mlift (D:=D) (T:=T) (E:=E) (U:=U) (P:=combK 2 T U) (by simp [hD.out,hT.out,hE.out,hU.out]) (by simp [hD.out,hT.out,hE.out,hU.out]) (by simp [hD.out,hT.out,hE.out,hU.out]) (by simp [hD.out,hT.out,hE.out,hU.out]) (by simp [hD.out,hT.out,hE.out,hU.out])).mono ?_
 rintro e w2 ⟨da_w2,dc_w2,ta_w2,tc_w2,rfl,hm_w2⟩
 have HM:=jX hm_w2
 clear hm_w2
 refine ⟨_,rfl,?_⟩
 have hS0:=HM.out.keep
 go_simp
 refine hK _ _ hS0 ?_
 clear hK K
 refine ⟨by kernel_rfl,?_⟩
 simp only [List.drop_succ_cons,List.drop_zero]
 have bz:=jX (HM.out.keep.heap Bgc.out (by simp))
 have pgc:=cell_of bz.out
 have fgc:=frozen_of bz.out
 have lgc:=lt_of_heap bz.out
 go_wp2_with fail
 obtain⟨u9,e9,b9,k9⟩:=st2 (x:=.slice da_w2 (combK 2 D E).length dc_w2) (y:=.slice ta_w2 (combK 2 (combK 2 D E) (combK 2 T U)).length tc_w2) bz.out
 rw [← e9]
 clear e9 pgc fgc lgc
 have pgc:=cell_of b9
 refine bodyPost_ret (v:=.agg #[.slice da_w2 (combK 2 D E).length dc_w2,.slice ta_w2 (combK 2 (combK 2 D E) (combK 2 T U)).length tc_w2]) ?_ rfl ⟨_,_,_,_,rfl,MP.fin H0.out.keep HkW.out HM.out bz.out (by simp) (by omega) k9 ?_⟩
 ·rw [results_cell1 rfl];go_simp
 ·intro p hp;simp only [List.mem_cons] at hp ⊢;grind
end
end Go.Proofs.YtejegogbhpmgfaaGreatDoor
