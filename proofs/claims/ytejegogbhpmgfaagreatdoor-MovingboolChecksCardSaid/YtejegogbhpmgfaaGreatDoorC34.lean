/- Parts of a proof about this translation: Kx, Uh, Ui, Vc, Ky. -/
import Derived.Test.YtejegogbhpmgfaaGreatDoorC23
import Derived.Test.YtejegogbhpmgfaaGreatDoorC33
import Derived.Test.YtejegogbhpmgfaaGreatDoorC18
import Derived.Test.YtejegogbhpmgfaaGreatDoorC26
set_option linter.unusedVariables false
set_option linter.unusedSimpArgs false
set_option maxRecDepth 100000
set_option maxHeartbeats 8000000
namespace Go.Proofs.YtejegogbhpmgfaaGreatDoor
open Go.RowKit
section
open Classical
theorem rchk_p (x:RawR) (hs:x.sz 1000000) (w:World):Calls Tryz.prog 133 #[x.v] w fun e w'=>e = .returned (errF (decide x.isK))∧Below w.heap.size w w':=by
 obtain⟨a1,a2,a3,a4,b1,b2,b3,b4,n⟩:=x
 obtain⟨hs1,hs2,hs3,hs4⟩:=hs
 dsimp only at hs1 hs2 hs3 hs4
 unfold RawR.v
 dsimp only
 have H1:=jX (qchk_c a1 a2 a3 a4 (by omega) (by omega))
 have H2:=jX (qchk_c b1 b2 b3 b4 (by omega) (by omega))
 have HX:Hid ((RawR.mk a1 a2 a3 a4 b1 b2 b3 b4 n).isK→chkQ a1 a2 a3 a4=true∧chkQ b1 b2 b3 b4=true):=by
  rintro ⟨q,hq,he⟩
  unfold RawR.of at he
  injection he with h1 h2 h3 h4 h5 h6 h7 h8 h9
  exact ⟨chkQ_iff.2 ⟨q.p,h1,h2,h3,h4⟩,chkQ_iff.2 ⟨q.r,h5,h6,h7,h8⟩⟩
 clear hs1 hs2
 cases hca:chkQ a1 a2 a3 a4 with
 | false =>
  rw [hca] at H1
  rw [show errF false = .int .i64 5 from rfl] at H1
  have hres:decide (RawR.mk a1 a2 a3 a4 b1 b2 b3 b4 n).isK=false:=decide_eq_false (fun h=>by have:=(HX.out h).1;rw [hca] at this;cases this)
  rw [hres]
  clear hres hca HX hs3 hs4 H2
  go_enter Tryz.func133,Tryz.ntmps133
  go_upto_region 1 with (fail)
  obtain⟨W,ga,hW,ega,Bga,hga,hgW,HkW⟩:=al1h w (.cells #[.bool a1,.string a2,.bool a3,.string a4,.bool b1,.string b2,.bool b3,.string b4,.bool n] 36)
  rw [← hW]
  try rw [ega]
  clear hW ega
  obtain⟨pga,fga,lga⟩:=jQ Bga
  go_wp2_with fail
  refine (H1.out _).mono ?_
  rintro e w1 ⟨rfl,hk_w1⟩
  dsimp only
  clear pga fga lga
  replace Bga:=jH hk_w1 Bga
  replace HkW:=jX (HkW.out.trans0 hk_w1)
  clear hk_w1
  obtain⟨pga,fga,lga⟩:=jQ Bga
  go_wp2_with fail
  go_ret
  exact ⟨rfl,Keep.below0 (by repeat (first|(with_reducible exact HkW.out)|(refine Keep.setPast ?_ _ _ _ (by omega))|(refine Keep.allocPast ?_ _)|(refine Keep.drewPast ?_)))⟩
 | true =>
  rw [hca] at H1
  rw [show errF true = .int .i64 0 from rfl] at H1
  cases hcb:chkQ b1 b2 b3 b4 with
  | false =>
   rw [hcb] at H2
   rw [show errF false = .int .i64 5 from rfl] at H2
   have hres:decide (RawR.mk a1 a2 a3 a4 b1 b2 b3 b4 n).isK=false:=decide_eq_false (fun h=>by have:=(HX.out h).2;rw [hcb] at this;cases this)
   rw [hres]
   clear hres hca hcb HX hs3 hs4
   go_enter Tryz.func133,Tryz.ntmps133
   go_upto_region 1 with (fail)
   obtain⟨W,ga,hW,ega,Bga,hga,hgW,HkW⟩:=al1h w (.cells #[.bool a1,.string a2,.bool a3,.string a4,.bool b1,.string b2,.bool b3,.string b4,.bool n] 36)
   rw [← hW]
   try rw [ega]
   clear hW ega
   obtain⟨pga,fga,lga⟩:=jQ Bga
   go_wp2_with fail
   refine (H1.out _).mono ?_
   rintro e w1 ⟨rfl,hk_w1⟩
   dsimp only
   clear pga fga lga
   replace Bga:=jH hk_w1 Bga
   replace HkW:=jX (HkW.out.trans0 hk_w1)
   clear hk_w1
   obtain⟨pga,fga,lga⟩:=jQ Bga
   go_wp2_with fail
   refine (H2.out _).mono ?_
   rintro e w2 ⟨rfl,hk_w2⟩
   dsimp only
   clear pga fga lga
   replace Bga:=jH hk_w2 Bga
   replace HkW:=jX (HkW.out.trans0 hk_w2)
   clear hk_w2
   obtain⟨pga,fga,lga⟩:=jQ Bga
   go_wp2_with fail
   go_ret
   exact ⟨rfl,Keep.below0 (by repeat (first|(with_reducible exact HkW.out)|(refine Keep.setPast ?_ _ _ _ (by omega))|(refine Keep.allocPast ?_ _)|(refine Keep.drewPast ?_)))⟩
  | true =>
   rw [hcb] at H2
   rw [show errF true = .int .i64 0 from rfl] at H2
   obtain⟨p,e1,e2,e3,e4⟩:=chkQ_iff.1 hca
   obtain⟨r,e5,e6,e7,e8⟩:=chkQ_iff.1 hcb
   have hfit:FitQ 10000000 r:=by
    refine ⟨?_,?_⟩
    ·have:=hs3;rw [e6] at this;exact Nat.le_trans this (by decide)
    have:=hs4;rw [e8] at this
    unfold dnS at this
    unfold Fit mgS
    rw [Int.natAbs_natCast]
    split at this
    ·rename_i h1;rw [h1];exact Nat.le_trans ((magS_size 1 1).2 (by decide)) (by decide)
    exact Nat.le_trans this (by decide)
   have HR:=jX (proot_p r (hfit.mono (by decide)))
   have HS:=jX (QSign_c r)
   clear hs3 hs4 hca hcb hfit HX
   subst e1 e2 e3 e4 e5 e6 e7 e8
   have HK1:Hid (∀ q:Qn,q.Ok→q.p=p→q.r=r→q.neg=n→(RawR.mk (sgB p.num) (mgS p.num) false (dnS p.den) (sgB r.num) (mgS r.num) false (dnS r.den) n).isK):=fun q hq h1 h2 h3=>⟨q,hq,by unfold RawR.of;rw [h1,h2,h3]⟩
   have HK2:Hid ((RawR.mk (sgB p.num) (mgS p.num) false (dnS p.den) (sgB r.num) (mgS r.num) false (dnS r.den) n).isK→(⟨p,r,n⟩:Qn).Ok):=by
    rintro ⟨q,hq,he⟩
    have:=RawR.of_inj (x:=⟨p,r,n⟩) (y:=q) he
    rw [this];exact hq
   generalize (RawR.mk (sgB p.num) (mgS p.num) false (dnS p.den) (sgB r.num) (mgS r.num) false (dnS r.den) n).isK=KK at *
   unfold rv at HR HS
   have hsg:=sgn_cases r
   unfold RootP rv at HR
   rcases hsg with ⟨hr0,hsg⟩|⟨hr0,hsg⟩|⟨hr0,hsg⟩
   ·have hres:decide KK=false:=decide_eq_false (fun h=>by have:=(HK2.out h).nn;dsimp only at this;grind)
    rw [hres]
    rw [hsg] at HS
    clear hres HK1 HK2 hsg HR hr0
    generalize sgB (p).num=a1 at *
    generalize mgS (p).num=a2 at *
    generalize dnS (p).den=a4 at *
    generalize sgB (r).num=b1 at *
    generalize mgS (r).num=b2 at *
    generalize dnS (r).den=b4 at *
    go_enter Tryz.func133,Tryz.ntmps133
    go_upto_region 1 with (fail)
    obtain⟨W,ga,hW,ega,Bga,hga,hgW,HkW⟩:=al1h w (.cells #[.bool a1,.string a2,.bool false,.string a4,.bool b1,.string b2,.bool false,.string b4,.bool _] 36)
    rw [← hW]
    try rw [ega]
    clear hW ega
    obtain⟨pga,fga,lga⟩:=jQ Bga
    go_wp2_with fail
    refine (H1.out _).mono ?_
    rintro e w1 ⟨rfl,hk_w1⟩
    dsimp only
    clear pga fga lga
    replace Bga:=jH hk_w1 Bga
    replace HkW:=jX (HkW.out.trans0 hk_w1)
    clear hk_w1
    obtain⟨pga,fga,lga⟩:=jQ Bga
    go_wp2_with fail
    refine (H2.out _).mono ?_
    rintro e w2 ⟨rfl,hk_w2⟩
    dsimp only
    clear pga fga lga
    replace Bga:=jH hk_w2 Bga
    replace HkW:=jX (HkW.out.trans0 hk_w2)
    clear hk_w2
    obtain⟨pga,fga,lga⟩:=jQ Bga
    go_wp2_with fail
    refine (HS.out _).mono ?_
    rintro e w3 ⟨rfl,hk_w3⟩
    dsimp only
    clear pga fga lga
    replace Bga:=jH hk_w3 Bga
    replace HkW:=jX (HkW.out.trans0 hk_w3)
    clear hk_w3
    obtain⟨pga,fga,lga⟩:=jQ Bga
    go_wp2_with fail
    go_ret
    exact ⟨rfl,Keep.below0 (by repeat (first|(with_reducible exact HkW.out)|(refine Keep.setPast ?_ _ _ _ (by omega))|(refine Keep.allocPast ?_ _)|(refine Keep.drewPast ?_)))⟩
   ·have hres : decide KK = !n := by
     cases n with
     | true=>exact decide_eq_false (fun h=>by have:=(HK2.out h).zero hr0;cases this)
     | false=>exact decide_eq_true (HK1.out ⟨p,r,false⟩ ⟨by show (0:Rat)≤r;rw [hr0];grind,fun _=>rfl,fun h=>absurd hr0 h⟩ rfl rfl rfl)
    rw [hres]
    rw [hsg] at HS
    clear hres HK1 HK2 hsg HR hr0
    generalize sgB (p).num=a1 at *
    generalize mgS (p).num=a2 at *
    generalize dnS (p).den=a4 at *
    generalize sgB (r).num=b1 at *
    generalize mgS (r).num=b2 at *
    generalize dnS (r).den=b4 at *
    cases n
    all_goals
     go_enter Tryz.func133,Tryz.ntmps133
     go_upto_region 1 with (fail)
     obtain⟨W,ga,hW,ega,Bga,hga,hgW,HkW⟩:=al1h w (.cells #[.bool a1,.string a2,.bool false,.string a4,.bool b1,.string b2,.bool false,.string b4,.bool _] 36)
     rw [← hW]
     try rw [ega]
     clear hW ega
     obtain⟨pga,fga,lga⟩:=jQ Bga
     go_wp2_with fail
     refine (H1.out _).mono ?_
     rintro e w1 ⟨rfl,hk_w1⟩
     dsimp only
     clear pga fga lga
     replace Bga:=jH hk_w1 Bga
     replace HkW:=jX (HkW.out.trans0 hk_w1)
     clear hk_w1
     obtain⟨pga,fga,lga⟩:=jQ Bga
     go_wp2_with fail
     refine (H2.out _).mono ?_
     rintro e w2 ⟨rfl,hk_w2⟩
     dsimp only
     clear pga fga lga
     replace Bga:=jH hk_w2 Bga
     replace HkW:=jX (HkW.out.trans0 hk_w2)
     clear hk_w2
     obtain⟨pga,fga,lga⟩:=jQ Bga
     go_wp2_with fail
     refine (HS.out _).mono ?_
     rintro e w3 ⟨rfl,hk_w3⟩
     dsimp only
     clear pga fga lga
     replace Bga:=jH hk_w3 Bga
     replace HkW:=jX (HkW.out.trans0 hk_w3)
     clear hk_w3
     obtain⟨pga,fga,lga⟩:=jQ Bga
     go_wp2_with fail
     go_ret
     exact ⟨rfl,Keep.below0 (by repeat (first|(with_reducible exact HkW.out)|(refine Keep.setPast ?_ _ _ _ (by omega))|(refine Keep.allocPast ?_ _)|(refine Keep.drewPast ?_)))⟩
   have HRes:Hid (∀ q ok,QRoot r q ok→decide KK = !ok):=by
    intro q ok hq
    cases ok with
    | true=>exact decide_eq_false (fun h=>(HK2.out h).sq (by dsimp only;grind) q (hq.1 rfl).2)
    | false=>exact decide_eq_true (HK1.out ⟨p,r,n⟩ ⟨by show (0:Rat)≤r;grind,fun h=>absurd h (by dsimp only;grind),fun _=>(hq.2 rfl).2⟩ rfl rfl rfl)
   generalize decide KK=res at *
   rw [hsg] at HS
   have HR:Hid (∀ w:World,Calls Tryz.prog 169 #[.agg #[.bool (sgB r.num),.string (mgS r.num),.bool false,.string (dnS r.den)]] w fun e w'=>∃ n s d ok,e = .returned (.tuple #[.agg #[.bool n,.string s,.bool false,.string d],.bool ok])∧res = !ok∧Below w.heap.size w w'):=fun w=>(HR.out w).mono (fun e w' h=>by
    obtain⟨q,ok,he,hq,hk⟩:=h
    exact ⟨_,_,_,ok,he,HRes.out q ok hq,hk⟩)
   clear HRes HK1 HK2 hsg hr0
   generalize sgB (p).num=a1 at *
   generalize mgS (p).num=a2 at *
   generalize dnS (p).den=a4 at *
   generalize sgB (r).num=b1 at *
   generalize mgS (r).num=b2 at *
   generalize dnS (r).den=b4 at *
   go_enter Tryz.func133,Tryz.ntmps133
   go_upto_region 1 with (fail)
   obtain⟨W,ga,hW,ega,Bga,hga,hgW,HkW⟩:=al1h w (.cells #[.bool a1,.string a2,.bool false,.string a4,.bool b1,.string b2,.bool false,.string b4,.bool _] 36)
   rw [← hW]
   try rw [ega]
   clear hW ega
   obtain⟨pga,fga,lga⟩:=jQ Bga
   go_wp2_with fail
   refine (H1.out _).mono ?_
   rintro e w1 ⟨rfl,hk_w1⟩
   dsimp only
   clear pga fga lga
   replace Bga:=jH hk_w1 Bga
   replace HkW:=jX (HkW.out.trans0 hk_w1)
   clear hk_w1
   obtain⟨pga,fga,lga⟩:=jQ Bga
   go_wp2_with fail
   refine (H2.out _).mono ?_
   rintro e w2 ⟨rfl,hk_w2⟩
   dsimp only
   clear pga fga lga
   replace Bga:=jH hk_w2 Bga
   replace HkW:=jX (HkW.out.trans0 hk_w2)
   clear hk_w2
   obtain⟨pga,fga,lga⟩:=jQ Bga
   go_wp2_with fail
   refine (HS.out _).mono ?_
   rintro e w3 ⟨rfl,hk_w3⟩
   dsimp only
   clear pga fga lga
   replace Bga:=jH hk_w3 Bga
   replace HkW:=jX (HkW.out.trans0 hk_w3)
   clear hk_w3
   obtain⟨pga,fga,lga⟩:=jQ Bga
   go_wp2_with fail
   have Hk:=jX HkW.out
   refine (HR.out _).mono ?_
   rintro e w5 ⟨qn,qs,qd,ok,rfl,rfl,hk_w5⟩
   dsimp only
   have HB:=jX ((Hk.out.below0).trans (Below.mono hk_w5 Hk.out.size))
   clear pga fga lga hk_w5
   cases ok
   all_goals
    go_upto_region 11 with (fail)
    obtain⟨W2,gc,hW2,egc,bgc,hgc,hgW2,hkW2⟩:=al1 w5 (.cells #[.bool qn,.string qs,.bool false,.string qd] 34)
    rw [← hW2]
    try rw [egc]
    have Bgc:=jX bgc
    clear hW2 egc bgc
    have HB2:=jX (HB.out.trans (Below.mono hkW2.below0 HB.out.size))
    go_wp2_with fail
    go_ret
    exact ⟨rfl,HB2.out⟩
end
section
open Classical
def MI (w0 w:World) (L:List (Value × List (Iv K))):Prop:=Keep [] w0 w∧∀ p∈L,IvR w p.1 p.2
theorem MI.start (w:World):MI w w []:=⟨Keep.refl _ _,by simp⟩
theorem MI.add {w0 w w':World} {L:List (Value × List (Iv K))} (h:MI w0 w L) {v:Value} {l:List (Iv K)} (hk:Keep [] w w') (hv:IvR w' v l):MI w0 w' ((v,l) :: L) :=
 ⟨h.1.trans0 hk,fun p hp=>by
  rcases List.mem_cons.1 hp with rfl|hp
  ·exact hv
  exact (h.2 p hp).later hk⟩
theorem MI.move {w0 w w':World} {L:List (Value × List (Iv K))} (h:MI w0 w L) (hk:Keep [] w w'):MI w0 w' L:=⟨h.1.trans0 hk,fun p hp=>(h.2 p hp).later hk⟩
theorem covers_c (a b:List (Iv K)) (ha:∀ i∈a,i.f<i.l) (hb:∀ i∈b,i.f<i.l) (w:World) (sv tv:Value) (hr:IvR w sv a) (hs:IvR w tv b) (h9:a.length≤10000) (h8:b.length≤10000) :
  Calls Tryz.prog 93 #[sv,tv] w fun e w'=>e = .returned (.bool (decide (combK 3 b a=[])))∧Keep [] w w':=by
 have H:=jX (Minus_p b a hb ha w tv sv hs hr h8 h9)
 obtain⟨ao,ac,rfl,_⟩:=hr.form
 obtain⟨bo,bc,rfl,_⟩:=hs.form
 clear hr hs ha hb
 go_enter Tryz.func93,Tryz.ntmps93
 go_wp2_with fail
 refine H.out.mono ?_
 rintro e w1 ⟨v,rfl,hv,hk⟩
 dsimp only
 have HK:=jX hk
 obtain⟨vo,vc,rfl,_⟩:=hv.form
 obtain⟨r,hr⟩:∃ r,decide (combK 3 b a=[])=r:=⟨_,rfl⟩
 have hd:(((combK 3 b a).length:Int) == 0)=r:=by
  rw [← hr,Bool.eq_iff_iff,beq_iff_eq,decide_eq_true_iff,← List.length_eq_zero_iff];omega
 have HRr:=jX hr
 clear hv hk H hr
 generalize (combK 3 b a).length=n at *
 go_wp2_with fail
 go_ret
 exact ⟨by rw [HRr.out];rfl,HK.out⟩
end
section
open Classical
theorem eqT_run (i:Iv K) (w:World):(binOp .eql 49 (iv i) (iv i)).run Tryz.prog w = .ok (.bool true) w:=by rw [eqlI_run];simp
theorem one_has (i:Iv K) (x:Bd K):hasL [i] x=i.has x:=by rw [hasL_cons,hasL_nil,Bool.or_false]
end
section
open Classical
theorem cmpB_le (a b:Bd K):cmpB a b≤0↔a≤b:=by
 rcases cmpB_tri a b with ⟨h,g⟩|⟨h,g⟩|⟨h,g⟩
 ·rw [h];exact ⟨fun h2=>absurd h2 (by decide),fun h2=>by grind⟩
 ·rw [h];exact ⟨fun _=>by grind,fun _=>by decide⟩
 rw [h];exact ⟨fun _=>by grind,fun _=>by decide⟩
theorem bd_built (x:K) (o:Bool):Tryz.prog.built 110 [(0,kv x),(1,.bool o)]=some (bC ⟨x,o⟩):=border_built _ _ _ _ _ _ _ _
theorem contains1_c (i:Iv K) (t:K) (w:World) (g:Nat) (hb:w.heap[g]? = some (.cells (kC t) 36)) :
  Calls Tryz.prog 104 #[iv i,.pointer (some ⟨g,0,none⟩)] w fun e w'=>e = .returned (.bool (decide (i.f≤⟨t,false⟩∧(⟨t,true⟩:Bd K)≤i.l)))∧Keep [] w w':=by
 have HF:=jX (fun w=>first_c i w)
 have HL:=jX (fun w=>last_c i w)
 have HC1:=jX (fun w=>bcmp_c i.f ⟨t,false⟩ w)
 have HC2:=jX (fun w=>bcmp_c ⟨t,true⟩ i.l w)
 have B1:=jX (bd_built t false)
 have B2:=jX (bd_built t true)
 have hd1:decide (cmpB i.f ⟨t,false⟩≤0)=decide (i.f≤⟨t,false⟩):=by rw [Bool.eq_iff_iff,decide_eq_true_iff,decide_eq_true_iff];exact cmpB_le _ _
 have hd2:decide (cmpB ⟨t,true⟩ i.l≤0)=decide ((⟨t,true⟩:Bd K)≤i.l):=by rw [Bool.eq_iff_iff,decide_eq_true_iff,decide_eq_true_iff];exact cmpB_le _ _
 have hres:decide (i.f≤⟨t,false⟩∧(⟨t,true⟩:Bd K)≤i.l)=(decide (cmpB i.f ⟨t,false⟩≤0)&&decide (cmpB ⟨t,true⟩ i.l≤0)):=by rw [hd1,hd2,Bool.decide_and]
 rw [hres]
 clear hd1 hd2 hres
 generalize cmpB i.f ⟨t,false⟩=n1 at *
 generalize cmpB ⟨t,true⟩ i.l=n2 at *
 have ho:iv i = .agg (iC i):=rfl
 have hk:kv t = .agg (kC t):=rfl
 have e1:bv i.f = .agg (bC i.f):=rfl
 have e2:bv i.l = .agg (bC i.l):=rfl
 have e3:bv ⟨t,false⟩ = .agg (bC ⟨t,false⟩):=rfl
 have e4:bv ⟨t,true⟩ = .agg (bC ⟨t,true⟩):=rfl
 rw [ho]
 rw [ho,e1] at HF
 rw [ho,e2] at HL
 rw [e1,e3] at HC1
 rw [e2,e4] at HC2
 rw [hk] at B1 B2
 clear ho hk e1 e2 e3 e4
 by_cases h1:n1≤0
 ·have hd:decide (n1≤0)=true:=decide_eq_true h1
  rw [hd,Bool.true_and]
  go_enter Tryz.func104,Tryz.ntmps104
  go_upto_region 1 with (fail)
  obtain⟨W,ga,hW,ega,Bga,hga,hgW,HkW⟩:=al1h w (.cells (iC i) 49)
  rw [← hW]
  try rw [ega]
  clear hW ega
  have HLi:=jX ((ivAt_box Bga.out).ld (lt_of_heap Bga.out))
  have HLt:=jX (kw_k (HkW.out.heap hb (by simp)))
  have hiv:iv i = .agg (iC i):=rfl
  have hkv:kv t = .agg (kC t):=rfl
  rw [hiv] at HLi
  rw [hkv] at HLt
  clear hiv hkv hb Bga
  have Q1:Hid (∀ m:KW W,Calls Tryz.prog 106 #[.agg (iC i)] (Wk W m) fun e w'=>e = .returned (.agg (bC i.f))∧∃ m,w'=Wk W m):=fun m=>qk m (HF.out _)
  have Q2:Hid (∀ m:KW W,Calls Tryz.prog 107 #[.agg (iC i)] (Wk W m) fun e w'=>e = .returned (.agg (bC i.l))∧∃ m,w'=Wk W m):=fun m=>qk m (HL.out _)
  have Q3:Hid (∀ m:KW W,Calls Tryz.prog 105 #[.agg (bC i.f),.agg (bC ⟨t,false⟩)] (Wk W m) fun e w'=>e = .returned (.int .i64 n1)∧∃ m,w'=Wk W m):=fun m=>qk m (HC1.out _)
  have Q4:Hid (∀ m:KW W,Calls Tryz.prog 105 #[.agg (bC ⟨t,true⟩),.agg (bC i.l)] (Wk W m) fun e w'=>e = .returned (.int .i64 n2)∧∃ m,w'=Wk W m):=fun m=>qk m (HC2.out _)
  clear HF HL HC1 HC2
  generalize iC i=I at *
  generalize kC t=T at *
  generalize bC i.f=F at *
  generalize bC i.l=L at *
  generalize bC ⟨t,false⟩=T0 at *
  generalize bC ⟨t,true⟩=T1 at *
  refine wp_region_keep (by kernel_rfl) (by kernel_rfl) ?_
  repeat (first
   | go_big_quiet_skip
   | (go_big_quiet_want;first
    | (refine quiet_load _ _ _ (.agg I) rfl rfl (by rintro _ ⟨m,rfl⟩;exact HLi.out m) ?_;go_simp;go_big_quiet_on)|(refine quiet_load _ _ _ (.agg T) rfl rfl (by rintro _ ⟨m,rfl⟩;exact HLt.out m) ?_;go_simp;go_big_quiet_on)|(refine quiet_build _ _ #[(0,.agg T),(1,.bool false)] (T0) rfl (by simp only [List.map_toArray,List.map_cons,List.map_nil];rfl) B1.out ?_;go_simp;go_big_quiet_on)|(refine quiet_build _ _ #[(0,.agg T),(1,.bool true)] (T1) rfl (by simp only [List.map_toArray,List.map_cons,List.map_nil];rfl) B2.out ?_;go_simp;go_big_quiet_on)
    | (go_big_quiet_op;first|go_big_quiet_on|go_big_quiet_call (first
     | (go_at_call 106;with_reducible exact (Q1).out _)|(go_at_call 107;with_reducible exact (Q2).out _)|(go_at_call 105;with_reducible exact (Q3).out _)|(go_at_call 105;with_reducible exact (Q4).out _)))))
  refine wpQuiet_nil ?_
  rintro w2 ⟨⟨_,hk_w2⟩,rfl⟩
  go_wp2_with fail
  go_ret
  exact ⟨rfl,HkW.out.trans0 hk_w2⟩
 have hd:decide (n1≤0)=false:=decide_eq_false h1
 rw [hd,Bool.false_and]
 go_enter Tryz.func104,Tryz.ntmps104
 go_upto_region 1 with (fail)
 obtain⟨W,ga,hW,ega,Bga,hga,hgW,HkW⟩:=al1h w (.cells (iC i) 49)
 rw [← hW]
 try rw [ega]
 clear hW ega
 have HLi:=jX ((ivAt_box Bga.out).ld (lt_of_heap Bga.out))
 have HLt:=jX (kw_k (HkW.out.heap hb (by simp)))
 have hiv:iv i = .agg (iC i):=rfl
 have hkv:kv t = .agg (kC t):=rfl
 rw [hiv] at HLi
 rw [hkv] at HLt
 clear hiv hkv hb Bga
 have Q1:Hid (∀ m:KW W,Calls Tryz.prog 106 #[.agg (iC i)] (Wk W m) fun e w'=>e = .returned (.agg (bC i.f))∧∃ m,w'=Wk W m):=fun m=>qk m (HF.out _)
 have Q2:Hid (∀ m:KW W,Calls Tryz.prog 107 #[.agg (iC i)] (Wk W m) fun e w'=>e = .returned (.agg (bC i.l))∧∃ m,w'=Wk W m):=fun m=>qk m (HL.out _)
 have Q3:Hid (∀ m:KW W,Calls Tryz.prog 105 #[.agg (bC i.f),.agg (bC ⟨t,false⟩)] (Wk W m) fun e w'=>e = .returned (.int .i64 n1)∧∃ m,w'=Wk W m):=fun m=>qk m (HC1.out _)
 have Q4:Hid (∀ m:KW W,Calls Tryz.prog 105 #[.agg (bC ⟨t,true⟩),.agg (bC i.l)] (Wk W m) fun e w'=>e = .returned (.int .i64 n2)∧∃ m,w'=Wk W m):=fun m=>qk m (HC2.out _)
 clear HF HL HC1 HC2
 generalize iC i=I at *
 generalize kC t=T at *
 generalize bC i.f=F at *
 generalize bC i.l=L at *
 generalize bC ⟨t,false⟩=T0 at *
 generalize bC ⟨t,true⟩=T1 at *
 refine wp_region_keep (by kernel_rfl) (by kernel_rfl) ?_
 repeat (first
  | go_big_quiet_skip
  | (go_big_quiet_want;first
   | (refine quiet_load _ _ _ (.agg I) rfl rfl (by rintro _ ⟨m,rfl⟩;exact HLi.out m) ?_;go_simp;go_big_quiet_on)|(refine quiet_load _ _ _ (.agg T) rfl rfl (by rintro _ ⟨m,rfl⟩;exact HLt.out m) ?_;go_simp;go_big_quiet_on)|(refine quiet_build _ _ #[(0,.agg T),(1,.bool false)] (T0) rfl (by simp only [List.map_toArray,List.map_cons,List.map_nil];rfl) B1.out ?_;go_simp;go_big_quiet_on)|(refine quiet_build _ _ #[(0,.agg T),(1,.bool true)] (T1) rfl (by simp only [List.map_toArray,List.map_cons,List.map_nil];rfl) B2.out ?_;go_simp;go_big_quiet_on)
   | (go_big_quiet_op;first|go_big_quiet_on|go_big_quiet_call (first
    | (go_at_call 106;with_reducible exact (Q1).out _)|(go_at_call 107;with_reducible exact (Q2).out _)|(go_at_call 105;with_reducible exact (Q3).out _)|(go_at_call 105;with_reducible exact (Q4).out _)))))
 refine wpQuiet_nil ?_
 rintro w2 ⟨⟨_,hk_w2⟩,rfl⟩
 go_wp2_with fail
 go_ret
 exact ⟨rfl,HkW.out.trans0 hk_w2⟩
theorem any_take {α:Type} (p:α→Bool) (l:List α) (k:Nat) (h:k<l.length) (hno:(l.take k).any p=false):(l.take (k+1)).any p=p l[k]:=by
 rw [List.take_succ_eq_append_getElem h,List.any_append,hno];simp
theorem any_early {α:Type} (p:α→Bool) (l:List α) (k:Nat) (h:(l.take k).any p=true):l.any p=true:=by
 rw [List.any_eq_true] at h ⊢
 obtain⟨x,hx,h⟩:=h
 exact ⟨x,List.mem_of_mem_take hx,h⟩
theorem index_c (l:List (Iv K)) (t:K) (gt:Nat) (w:World) (hb:w.heap[gt]? = some (.cells (kC t) 36)) (sv:Value) (hr:IvR w sv l) (h9:l.length≤1000000000) :
  Calls Tryz.prog 143 #[sv,.func (.func 104) #[] #[.pointer (some ⟨gt,0,none⟩)]] w fun e w'=>∃ n:Int,e = .returned (.int .i64 n)∧decide (0≤n)=holds l t∧Keep [] w w':=by
 have HR:=jX hr
 have Hb:=jX hb
 have HC:=jX (fun i w hb=>contains1_c i t w gt hb)
 obtain⟨ao,ac,rfl,_⟩:=hr.form
 clear hr hb
 unfold holds
 generalize hP:(fun i:Iv K=>decide (i.f≤⟨t,false⟩∧(⟨t,true⟩:Bd K)≤i.l))=P at *
 have HP:=jX hP
 clear hP
 go_enter Tryz.func143,Tryz.ntmps143
 go_wp2_with fail
 go_loopw [5,8] (fun _ c wr=>∃ k:Nat,k≤l.length∧c = .int .i64 (k:Int)∧(l.take k).any P=false∧Keep [] w wr) (fun _ c _=>l.length-(intOf c).toNat)
 case atStart=>exact ⟨0,Nat.zero_le _,rfl,rfl,Keep.refl _ _⟩
 case round =>
  obtain⟨k,hk,rfl,hno,hkeep⟩:=hrel
  have Hno:=jX hno
  have HKr:=jX hkeep
  clear hno hkeep
  by_cases hlt:k<l.length
  ·obtain⟨g,o,rfl,hg,hat⟩:=IvR.elem (HR.out.later HKr.out) k hlt
   have Hnx:=jX (any_take P l k hlt Hno.out)
   obtain⟨i,hi⟩:∃ i,l[k]=i:=⟨_,rfl⟩
   rw [hi] at Hnx hat
   have H1:=jX (HC.out i wr (HKr.out.heap Hb.out (by simp)))
   obtain⟨p,hp⟩:∃ p,o+k*20=p:=⟨_,rfl⟩
   rw [hp] at hat
   have HL:=jX (load_iv wr g p i hat)
   have hPi:decide (i.f≤⟨t,false⟩∧(⟨t,true⟩:Bd K)≤i.l)=P i:=by rw [← HP.out]
   have HPi:=jX hPi
   rw [hPi] at H1
   clear hi hat hPi
   have hiv:iv i = .agg (iC i):=rfl
   rw [hiv] at H1 HL
   clear hiv
   generalize P i=r at *
   generalize iC i=I at *
   go_upto_region 4 with (fail)
   refine wp_region_lit ?_
   refine' wpList_R (v:=_) (by rfl) (?ha) (fun K hK=>?ka)
   case ha=>(go_simp;try rfl)
   go_simp
   refine hK _ _ ?_
   clear hK K
   refine' wpList_R (v:=_) (by rfl) (?hb) (fun K hK=>?kb)
   case hb=>(go_simp;try rfl)
   go_simp
   refine hK _ _ ?_
   clear hK K
   refine' wpList_R (v:=_) (by rfl) (?hc) (fun K hK=>?kc)
   case hc=>(go_simp;try rfl)
   go_simp
   refine hK _ _ ?_
   clear hK K
   refine' wpList_R (v:=_) (by rfl) (?hd) (fun K hK=>?kd)
   case hd=>(go_simp;try rfl)
   go_simp
   refine hK _ _ ?_
   clear hK K
   refine wpList_R (v:=.agg I) (by rfl) (exec_load _ _ ⟨g,p,none⟩ _ rfl rfl HL.out) (fun K hK=>?_)
   go_simp
   refine hK _ _ ?_
   clear hK K
   refine wpList_plain (by rfl) (fun K hK=>?_)
   refine wp_enter 104 #[.agg I,.pointer (some ⟨gt,0,none⟩)] (by go_simp) ?_
   refine H1.out.mono ?_
   rintro e w3 ⟨rfl,hk3⟩
   refine ⟨_,rfl,?_⟩
   go_simp
   refine hK _ _ ?_
   clear hK K
   have HKx:=jX (HKr.out.trans0 hk3)
   clear hk3 H1 HL HPi
   cases r with
   | true =>
    go_wp2_with fail
    go_ret
    exact ⟨(k:Int),rfl,by rw [any_early P l _ Hnx.out];exact decide_eq_true (by omega),HKx.out⟩
   | false =>
    go_wp2_with fail
    go_roundw
    case rel=>exact ⟨k+1,by omega,congrArg (Value.int .i64) (by omega),Hnx.out,HKx.out⟩
    case measure=>simp [intOf];omega
  have hkl:l.take k=l:=List.take_of_length_le (by omega)
  have HF:Hid (l.any P=false):=by rw [← hkl];exact Hno.out
  clear hkl Hno
  go_wp2_with fail
  go_ret
  exact ⟨-1,rfl,by rw [HF.out];rfl,HKr.out⟩
theorem contF_c (l:List (Iv K)) (t:K) (gt:Nat) (w:World) (hb:w.heap[gt]? = some (.cells (kC t) 36)) (sv:Value) (hr:IvR w sv l) (h9:l.length≤1000000000) :
  Calls Tryz.prog 103 #[sv,.func (.func 104) #[] #[.pointer (some ⟨gt,0,none⟩)]] w fun e w'=>e = .returned (.bool (holds l t))∧Keep [] w w':=by
 have H:=jX (index_c l t gt w hb sv hr h9)
 obtain⟨ao,ac,rfl,_⟩:=hr.form
 clear hr hb
 go_enter Tryz.func103,Tryz.ntmps103
 go_wp2_with fail
 refine H.out.mono ?_
 rintro e w2 ⟨n,rfl,hn,hk⟩
 dsimp only
 have HK:=jX hk
 clear hk
 go_wp2_with fail
 go_ret
 exact ⟨rfl,HK.out⟩
theorem contains_c (l:List (Iv K)) (t:K) (w:World) (sv:Value) (hr:IvR w sv l) (h9:l.length≤1000000000) :
  Calls Tryz.prog 65 #[sv,kv t] w fun e w'=>e = .returned (.bool (holds l t))∧Keep [] w w':=by
 have HR:=jX hr
 have HC:=jX (fun w gt hb sv hr=>contF_c l t gt w hb sv hr h9)
 obtain⟨ao,ac,rfl,_⟩:=hr.form
 clear hr h9
 show Calls Tryz.prog 65 #[_,.agg (kC t)] w _
 go_enter Tryz.func65,Tryz.ntmps65
 go_upto_region 1 with (fail)
 obtain⟨W,ga,hW,ega,Bga,hga,hgW,HkW⟩:=al1h w (.cells (kC t) 36)
 rw [← hW]
 try rw [ega]
 clear hW ega
 have H:=jX (HC.out W ga Bga.out _ (HR.out.later HkW.out))
 clear HC
 go_wp2_with fail
 refine H.out.mono ?_
 rintro e w2 ⟨rfl,hk⟩
 dsimp only
 have HK:=jX (HkW.out.trans0 hk)
 clear hk
 go_wp2_with fail
 go_ret
 exact ⟨rfl,HK.out⟩
end
section
open Classical
structure RawI where
 f:RawR
 t:RawR
 o:Bool
 c:Bool
def RawI.cells (r:RawI):List Value:=r.f.cells++r.t.cells++[.bool r.o,.bool r.c]
def RawI.C (r:RawI):Array Value:=r.cells.toArray
def RawI.v (r:RawI):Value:=.agg r.C
def RawI.of (i:Iv K):RawI:=⟨RawR.of i.f.pt.1,RawR.of i.l.pt.1,i.f.beh,!i.l.beh⟩
theorem RawI.of_inj {i j:Iv K} (h:RawI.of i=RawI.of j):i=j:=by
 unfold RawI.of at h
 injection h with h1 h2 h3 h4
 have e1:i.f.pt=j.f.pt:=Subtype.ext (RawR.of_inj h1)
 have e2:i.l.pt=j.l.pt:=Subtype.ext (RawR.of_inj h2)
 have e4:i.l.beh=j.l.beh:=by simpa using h4
 obtain⟨⟨a,b⟩,⟨c,d⟩⟩:=i
 obtain⟨⟨a',b'⟩,⟨c',d'⟩⟩:=j
 dsimp only at *
 subst e1 e2 h3 e4
 rfl
def RawI.sz (r:RawI) (k:Nat):Prop:=r.f.sz k∧r.t.sz k
theorem RawR.toK {x:RawR} (h:x.isK) (hs:x.sz 100000):∃ k:K,x=RawR.of k.1:=by
 obtain⟨q,hq,rfl⟩:=h
 have hd:∀ n:Nat,(dnS n).size≤100000→Fit 100000 (n:Int):=fun n h=>by
  unfold dnS at h
  unfold Fit mgS
  rw [Int.natAbs_natCast]
  split at h
  ·rename_i h1;rw [h1];exact Nat.le_trans ((magS_size 1 1).2 (by decide)) (by decide)
  exact h
 obtain⟨s1,s2,s3,s4⟩:=hs
 exact ⟨⟨q,hq,⟨s1,hd _ s2⟩,⟨s3,hd _ s4⟩⟩,rfl⟩
theorem RawI.toI {r:RawI} (h1:r.f.isK) (h2:r.t.isK) (hs:r.sz 100000):∃ i:Iv K,r=RawI.of i:=by
 obtain⟨a,ha⟩:=RawR.toK h1 hs.1
 obtain⟨b,hb⟩:=RawR.toK h2 hs.2
 obtain⟨f,t,o,c⟩:=r
 dsimp only at *
 subst ha hb
 exact ⟨⟨⟨a,o⟩,⟨b,!c⟩⟩,by unfold RawI.of;simp⟩
noncomputable def eI (r:RawI):Int:=if h:∃ i:Iv K,r=RawI.of i then (if h.choose.f<h.choose.l then 0 else 10) else 5
theorem eI_of (i:Iv K):eI (RawI.of i)=if i.f<i.l then 0 else 10:=by
 have h:∃ j:Iv K,RawI.of i=RawI.of j:=⟨i,rfl⟩
 unfold eI
 rw [dif_pos h,← RawI.of_inj h.choose_spec]
theorem eI_no {r:RawI} (h:¬ (r.f.isK∧r.t.isK)):eI r=5:=dif_neg (by
 rintro ⟨i,rfl⟩
 exact h ⟨⟨_,i.f.pt.2.1,rfl⟩,⟨_,i.l.pt.2.1,rfl⟩⟩)
theorem raw_len (x:RawR):x.cells.length=9:=rfl
theorem load_raw (w:World) (b o:Nat) (x:RawR) (hc:∀ k v,x.cells[k]? = some v→w.cell? ⟨b,o+k,none⟩=some v):(loadVar 36 ⟨b,o,none⟩).run Tryz.prog w = .ok x.v w:=by
 obtain⟨ie,hie,hs⟩:=infoReal
 exact Go.Lib.rl_loadVar_cells 36 ie hie Tryz.isAgg36 b o x.cells (by rw [hs];rfl) w hc
theorem load_rawi (w:World) (b o:Nat) (r:RawI) (hc:∀ k v,r.cells[k]? = some v→w.cell? ⟨b,o+k,none⟩=some v):(loadVar 49 ⟨b,o,none⟩).run Tryz.prog w = .ok r.v w:=by
 obtain⟨ie,hie,hs⟩:=infoIv
 exact Go.Lib.rl_loadVar_cells 49 ie hie Tryz.isAgg49 b o r.cells (by rw [hs];rfl) w hc
def RIAt (w:World) (b o:Nat) (r:RawI):Prop:=∀ k v,r.cells[k]? = some v→w.cell? ⟨b,o+k,none⟩=some v
theorem RIAt.frm {w:World} {b o:Nat} {r:RawI} (h:RIAt w b o r):∀ k v,r.f.cells[k]? = some v→w.cell? ⟨b,o+k,none⟩=some v:=fun k v hk=>by
 refine h k v ?_
 have hl:k<9:=by have:=(List.getElem?_eq_some_iff.1 hk).1;rwa [raw_len] at this
 unfold RawI.cells
 rw [List.append_assoc,List.getElem?_append_left (by rw [raw_len];exact hl)]
 exact hk
theorem RIAt.upto {w:World} {b o:Nat} {r:RawI} (h:RIAt w b o r):∀ k v,r.t.cells[k]? = some v→w.cell? ⟨b,o+9+k,none⟩=some v:=fun k v hk=>by
 have hl:k<9:=by have:=(List.getElem?_eq_some_iff.1 hk).1;rwa [raw_len] at this
 have:=h (9+k) v (by
  unfold RawI.cells
  rw [List.append_assoc,List.getElem?_append_right (by rw [raw_len];omega),raw_len,List.getElem?_append_left (by rw [raw_len];omega),Nat.add_sub_cancel_left]
  exact hk)
 rwa [← Nat.add_assoc] at this
theorem rAt_box {w:World} {g:Nat} {r:RawI} {t:TypeId} (h:w.heap[g]? = some (.cells r.C t)):RIAt w g 0 r:=fun k v hk=>by
 rw [Nat.zero_add,cell_of h]
 exact (List.getElem?_toArray ..).trans hk
end
end Go.Proofs.YtejegogbhpmgfaaGreatDoor
