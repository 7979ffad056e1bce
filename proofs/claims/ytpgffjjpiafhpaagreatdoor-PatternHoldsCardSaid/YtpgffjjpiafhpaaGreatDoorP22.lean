/- Parts of a proof: Kx Ky Kz La. -/
import Derived.Test.YtpgffjjpiafhpaaGreatDoorP21
import Derived.Test.YtpgffjjpiafhpaaGreatDoorP18
import Derived.Test.YtpgffjjpiafhpaaGreatDoorP10
import Derived.Test.YtpgffjjpiafhpaaGreatDoorP16
set_option linter.unusedVariables false
set_option linter.unusedSimpArgs false
set_option maxRecDepth 100000
set_option maxHeartbeats 8000000
namespace Go.Proofs.YtpgffjjpiafhpaaGreatDoor
open Go.RowKit Tryz
section
open Classical
theorem rchk_p (x:RawR) (hs:x.sz 1000000) (w:World):Calls prog 75 #[x.v] w fun e w'=>e = .returned (errF (decide x.isK))∧Below w.heap.size w w':=by
 obtain⟨a1,a2,a3,a4,b1,b2,b3,b4,n⟩:=x;obtain⟨hs1,hs2,hs3,hs4⟩:=hs;dsimp only at hs1 hs2 hs3 hs4;unfold RawR.v;dsimp only;have H1:=jX (qchk_c a1 a2 a3 a4 (by omega) (by omega));have H2:=jX (qchk_c b1 b2 b3 b4 (by omega) (by omega))
 have HX:Hid ((RawR.mk a1 a2 a3 a4 b1 b2 b3 b4 n).isK→chkQ a1 a2 a3 a4=true∧chkQ b1 b2 b3 b4=true):=by
  rintro ⟨q,hq,he⟩;unfold RawR.of at he;injection he with h1 h2 h3 h4 h5 h6 h7 h8 h9;exact ⟨ydd.2 ⟨q.p,h1,h2,h3,h4⟩,ydd.2 ⟨q.r,h5,h6,h7,h8⟩⟩
 clear hs1 hs2;cases hca:chkQ a1 a2 a3 a4 with
 | false =>
  rw [hca] at H1;rw [show errF false = .int .i64 5 from rfl] at H1
  have hres:decide (RawR.mk a1 a2 a3 a4 b1 b2 b3 b4 n).isK=false:=decide_eq_false (fun h=>by have:=(HX.out h).1;rw [hca] at this;cases this);rw [hres];clear hres hca HX hs3 hs4 H2;go_enter func75,ntmps75
  go_upto_region 1 with (fail)
  obtain⟨W,ga,hW,ega,Bga,hga,hgW,HkW⟩:=al1h w (.cells #[.bool a1,.string a2,.bool a3,.string a4,.bool b1,.string b2,.bool b3,.string b4,.bool n] 30);rw [← hW];try rw [ega]
  clear hW ega;obtain⟨pga,fga,lga⟩:=jQ Bga;go_wp2_with fail;refine (H1.out _).mono ?_;rintro e w1 ⟨rfl,hk_w1⟩;dsimp only;clear pga fga lga;replace Bga:=jH hk_w1 Bga;replace HkW:=jX (HkW.out.tz hk_w1);clear hk_w1;obtain⟨pga,fga,lga⟩:=jQ Bga;go_wp2_with fail;go_ret
  exact ⟨rfl,Keep.bz (by repeat (first|(with_reducible exact HkW.out)|(refine Keep.sP ?_ _ _ _ (by omega))|(refine Keep.aP ?_ _)|(refine Keep.dP ?_)))⟩
 | true =>
  rw [hca] at H1;rw [show errF true = .int .i64 0 from rfl] at H1
  cases hcb:chkQ b1 b2 b3 b4 with
  | false =>
   rw [hcb] at H2;rw [show errF false = .int .i64 5 from rfl] at H2
   have hres:decide (RawR.mk a1 a2 a3 a4 b1 b2 b3 b4 n).isK=false:=decide_eq_false (fun h=>by have:=(HX.out h).2;rw [hcb] at this;cases this);rw [hres];clear hres hca hcb HX hs3 hs4;go_enter func75,ntmps75
   go_upto_region 1 with (fail)
   obtain⟨W,ga,hW,ega,Bga,hga,hgW,HkW⟩:=al1h w (.cells #[.bool a1,.string a2,.bool a3,.string a4,.bool b1,.string b2,.bool b3,.string b4,.bool n] 30);rw [← hW];try rw [ega]
   clear hW ega;obtain⟨pga,fga,lga⟩:=jQ Bga;go_wp2_with fail;refine (H1.out _).mono ?_;rintro e w1 ⟨rfl,hk_w1⟩;dsimp only;clear pga fga lga;replace Bga:=jH hk_w1 Bga;replace HkW:=jX (HkW.out.tz hk_w1);clear hk_w1;obtain⟨pga,fga,lga⟩:=jQ Bga;go_wp2_with fail;refine (H2.out _).mono ?_;rintro e w2 ⟨rfl,hk_w2⟩;dsimp only;clear pga fga lga;replace Bga:=jH hk_w2 Bga;replace HkW:=jX (HkW.out.tz hk_w2);clear hk_w2;obtain⟨pga,fga,lga⟩:=jQ Bga;go_wp2_with fail;go_ret
   exact ⟨rfl,Keep.bz (by repeat (first|(with_reducible exact HkW.out)|(refine Keep.sP ?_ _ _ _ (by omega))|(refine Keep.aP ?_ _)|(refine Keep.dP ?_)))⟩
  | true =>
   rw [hcb] at H2;rw [show errF true = .int .i64 0 from rfl] at H2
   obtain⟨p,e1,e2,e3,e4⟩:=ydd.1 hca;obtain⟨r,e5,e6,e7,e8⟩:=ydd.1 hcb
   have hfit:FitQ 10000000 r:=by
    refine ⟨?_,?_⟩
    ·have:=hs3;rw [e6] at this;exact Nat.le_trans this (by decide)
    have:=hs4;rw [e8] at this;unfold dnS at this;unfold Fit mgS;rw [Int.natAbs_natCast];split at this
    ·rename_i h1;rw [h1];exact Nat.le_trans ((yaI 1 1).2 (by decide)) (by decide)
    exact Nat.le_trans this (by decide)
   have HR:=jX (proot_p r (hfit.mono (by decide)));have HS:=jX (QSign_c r);clear hs3 hs4 hca hcb hfit HX;subst e1 e2 e3 e4 e5 e6 e7 e8;have HK1:Hid (∀ q:Qn,q.Ok→q.p=p→q.r=r→q.neg=n→(RawR.mk (sgB p.num) (mgS p.num) false (dnS p.den) (sgB r.num) (mgS r.num) false (dnS r.den) n).isK):=fun q hq h1 h2 h3=>⟨q,hq,by unfold RawR.of;rw [h1,h2,h3]⟩
   have HK2:Hid ((RawR.mk (sgB p.num) (mgS p.num) false (dnS p.den) (sgB r.num) (mgS r.num) false (dnS r.den) n).isK→(⟨p,r,n⟩:Qn).Ok):=by
    rintro ⟨q,hq,he⟩;have:=RawR.of_inj (x:=⟨p,r,n⟩) (y:=q) he;rw [this];exact hq
   generalize (RawR.mk (sgB p.num) (mgS p.num) false (dnS p.den) (sgB r.num) (mgS r.num) false (dnS r.den) n).isK=KK at *;unfold rv at HR HS;have hsg:=yaS r;unfold RootP rv at HR;rcases hsg with ⟨hr0,hsg⟩|⟨hr0,hsg⟩|⟨hr0,hsg⟩
   ·have hres:decide KK=false:=decide_eq_false (fun h=>by have:=(HK2.out h).nn;dsimp only at this;grind)
    rw [hres];rw [hsg] at HS;clear hres HK1 HK2 hsg HR hr0;generalize sgB (p).num=a1 at *;generalize mgS (p).num=a2 at *;generalize dnS (p).den=a4 at *;generalize sgB (r).num=b1 at *;generalize mgS (r).num=b2 at *;generalize dnS (r).den=b4 at *;go_enter func75,ntmps75
    go_upto_region 1 with (fail)
    obtain⟨W,ga,hW,ega,Bga,hga,hgW,HkW⟩:=al1h w (.cells #[.bool a1,.string a2,.bool false,.string a4,.bool b1,.string b2,.bool false,.string b4,.bool _] 30);rw [← hW];try rw [ega]
    clear hW ega;obtain⟨pga,fga,lga⟩:=jQ Bga;go_wp2_with fail;refine (H1.out _).mono ?_;rintro e w1 ⟨rfl,hk_w1⟩;dsimp only;clear pga fga lga;replace Bga:=jH hk_w1 Bga;replace HkW:=jX (HkW.out.tz hk_w1);clear hk_w1;obtain⟨pga,fga,lga⟩:=jQ Bga;go_wp2_with fail;refine (H2.out _).mono ?_;rintro e w2 ⟨rfl,hk_w2⟩;dsimp only;clear pga fga lga;replace Bga:=jH hk_w2 Bga;replace HkW:=jX (HkW.out.tz hk_w2);clear hk_w2;obtain⟨pga,fga,lga⟩:=jQ Bga;go_wp2_with fail;refine (HS.out _).mono ?_;rintro e w3 ⟨rfl,hk_w3⟩;dsimp only;clear pga fga lga;replace Bga:=jH hk_w3 Bga;replace HkW:=jX (HkW.out.tz hk_w3);clear hk_w3;obtain⟨pga,fga,lga⟩:=jQ Bga;go_wp2_with fail;go_ret
    exact ⟨rfl,Keep.bz (by repeat (first|(with_reducible exact HkW.out)|(refine Keep.sP ?_ _ _ _ (by omega))|(refine Keep.aP ?_ _)|(refine Keep.dP ?_)))⟩
   ·have hres : decide KK = !n := by
     cases n with
     | true=>exact decide_eq_false (fun h=>by have:=(HK2.out h).zero hr0;cases this)
     | false=>exact decide_eq_true (HK1.out ⟨p,r,false⟩ ⟨by show (0:Rat)≤r;rw [hr0];grind,fun _=>rfl,fun h=>absurd hr0 h⟩ rfl rfl rfl)
    rw [hres];rw [hsg] at HS;clear hres HK1 HK2 hsg HR hr0;generalize sgB (p).num=a1 at *;generalize mgS (p).num=a2 at *;generalize dnS (p).den=a4 at *;generalize sgB (r).num=b1 at *;generalize mgS (r).num=b2 at *;generalize dnS (r).den=b4 at *;cases n
    all_goals
     go_enter func75,ntmps75
     go_upto_region 1 with (fail)
     obtain⟨W,ga,hW,ega,Bga,hga,hgW,HkW⟩:=al1h w (.cells #[.bool a1,.string a2,.bool false,.string a4,.bool b1,.string b2,.bool false,.string b4,.bool _] 30);rw [← hW];try rw [ega]
     clear hW ega;obtain⟨pga,fga,lga⟩:=jQ Bga;go_wp2_with fail;refine (H1.out _).mono ?_;rintro e w1 ⟨rfl,hk_w1⟩;dsimp only;clear pga fga lga;replace Bga:=jH hk_w1 Bga;replace HkW:=jX (HkW.out.tz hk_w1);clear hk_w1;obtain⟨pga,fga,lga⟩:=jQ Bga;go_wp2_with fail;refine (H2.out _).mono ?_;rintro e w2 ⟨rfl,hk_w2⟩;dsimp only;clear pga fga lga;replace Bga:=jH hk_w2 Bga;replace HkW:=jX (HkW.out.tz hk_w2);clear hk_w2;obtain⟨pga,fga,lga⟩:=jQ Bga;go_wp2_with fail;refine (HS.out _).mono ?_;rintro e w3 ⟨rfl,hk_w3⟩;dsimp only;clear pga fga lga;replace Bga:=jH hk_w3 Bga;replace HkW:=jX (HkW.out.tz hk_w3);clear hk_w3;obtain⟨pga,fga,lga⟩:=jQ Bga;go_wp2_with fail;go_ret
     exact ⟨rfl,Keep.bz (by repeat (first|(with_reducible exact HkW.out)|(refine Keep.sP ?_ _ _ _ (by omega))|(refine Keep.aP ?_ _)|(refine Keep.dP ?_)))⟩
   have HRes:Hid (∀ q ok,QRoot r q ok→decide KK = !ok):=by
    intro q ok hq;cases ok with
    | true=>exact decide_eq_false (fun h=>(HK2.out h).sq (by dsimp only;grind) q (hq.1 rfl).2)
    | false=>exact decide_eq_true (HK1.out ⟨p,r,n⟩ ⟨by show (0:Rat)≤r;grind,fun h=>absurd h (by dsimp only;grind),fun _=>(hq.2 rfl).2⟩ rfl rfl rfl)
   generalize decide KK=res at *;rw [hsg] at HS
   have HR:Hid (∀ w:World,Calls prog 125 #[.agg #[.bool (sgB r.num),.string (mgS r.num),.bool false,.string (dnS r.den)]] w fun e w'=>∃ n s d ok,e = .returned (.tuple #[.agg #[.bool n,.string s,.bool false,.string d],.bool ok])∧res = !ok∧Below w.heap.size w w'):=fun w=>(HR.out w).mono (fun e w' h=>by
    obtain⟨q,ok,he,hq,hk⟩:=h
    exact ⟨_,_,_,ok,he,HRes.out q ok hq,hk⟩)
   clear HRes HK1 HK2 hsg hr0;generalize sgB (p).num=a1 at *;generalize mgS (p).num=a2 at *;generalize dnS (p).den=a4 at *;generalize sgB (r).num=b1 at *;generalize mgS (r).num=b2 at *;generalize dnS (r).den=b4 at *;go_enter func75,ntmps75
   go_upto_region 1 with (fail)
   obtain⟨W,ga,hW,ega,Bga,hga,hgW,HkW⟩:=al1h w (.cells #[.bool a1,.string a2,.bool false,.string a4,.bool b1,.string b2,.bool false,.string b4,.bool _] 30);rw [← hW];try rw [ega]
   clear hW ega;obtain⟨pga,fga,lga⟩:=jQ Bga;go_wp2_with fail;refine (H1.out _).mono ?_;rintro e w1 ⟨rfl,hk_w1⟩;dsimp only;clear pga fga lga;replace Bga:=jH hk_w1 Bga;replace HkW:=jX (HkW.out.tz hk_w1);clear hk_w1;obtain⟨pga,fga,lga⟩:=jQ Bga;go_wp2_with fail;refine (H2.out _).mono ?_;rintro e w2 ⟨rfl,hk_w2⟩;dsimp only;clear pga fga lga;replace Bga:=jH hk_w2 Bga;replace HkW:=jX (HkW.out.tz hk_w2);clear hk_w2;obtain⟨pga,fga,lga⟩:=jQ Bga;go_wp2_with fail;refine (HS.out _).mono ?_;rintro e w3 ⟨rfl,hk_w3⟩;dsimp only;clear pga fga lga;replace Bga:=jH hk_w3 Bga;replace HkW:=jX (HkW.out.tz hk_w3);clear hk_w3;obtain⟨pga,fga,lga⟩:=jQ Bga;go_wp2_with fail;have Hk:=jX HkW.out;refine (HR.out _).mono ?_;rintro e w5 ⟨qn,qs,qd,ok,rfl,rfl,hk_w5⟩;dsimp only;have HB:=jX ((Hk.out.bz).trans (Below.mono hk_w5 Hk.out.size));clear pga fga lga hk_w5;cases ok
   all_goals
    go_upto_region 11 with (fail)
    obtain⟨W2,gc,hW2,egc,bgc,hgc,hgW2,hkW2⟩:=al1 w5 (.cells #[.bool qn,.string qs,.bool false,.string qd] 28);rw [← hW2];try rw [egc]
    have Bgc:=jX bgc;clear hW2 egc bgc;have HB2:=jX (HB.out.trans (Below.mono hkW2.bz HB.out.size));go_wp2_with fail;go_ret
    exact ⟨rfl,HB2.out⟩
end
section
open Classical
structure RawI where
 f:RawR
 t:RawR
 o:Bool
 c:Bool
def RawI.cells (r:RawI):List Value:=r.f.cells++r.t.cells++[.bool r.o,.bool r.c]
def RawI.C (r:RawI):Array Value:=r.cells.toArray
def RawI.v (r:RawI):Value:=.agg r.C
def RawI.of (i:Iv K):RawI:=⟨RawR.of i.f.pt.1,RawR.of i.l.pt.1,i.f.beh,!i.l.beh⟩
theorem RawI.of_v (i:Iv K):(RawI.of i).v=iv i:=rfl
theorem RawI.of_inj {i j:Iv K} (h:RawI.of i=RawI.of j):i=j:=by
 unfold RawI.of at h;injection h with h1 h2 h3 h4;have e1:i.f.pt=j.f.pt:=Subtype.ext (RawR.of_inj h1);have e2:i.l.pt=j.l.pt:=Subtype.ext (RawR.of_inj h2);have e4:i.l.beh=j.l.beh:=by simpa using h4
 obtain⟨⟨a,b⟩,⟨c,d⟩⟩:=i;obtain⟨⟨a',b'⟩,⟨c',d'⟩⟩:=j;dsimp only at *;subst e1 e2 h3 e4;rfl
def RawI.sz (r:RawI) (k:Nat):Prop:=r.f.sz k∧r.t.sz k
theorem RawR.toK {x:RawR} (h:x.isK) (hs:x.sz 100000):∃ k:K,x=RawR.of k.1:=by
 obtain⟨q,hq,rfl⟩:=h
 have hd:∀ n:Nat,(dnS n).size≤100000→Fit 100000 (n:Int):=fun n h=>by
  unfold dnS at h;unfold Fit mgS;rw [Int.natAbs_natCast];split at h
  ·rename_i h1;rw [h1];exact Nat.le_trans ((yaI 1 1).2 (by decide)) (by decide)
  exact h
 obtain⟨s1,s2,s3,s4⟩:=hs;exact ⟨⟨q,hq,⟨s1,hd _ s2⟩,⟨s3,hd _ s4⟩⟩,rfl⟩
theorem RawI.toI {r:RawI} (h1:r.f.isK) (h2:r.t.isK) (hs:r.sz 100000):∃ i:Iv K,r=RawI.of i:=by
 obtain⟨a,ha⟩:=RawR.toK h1 hs.1;obtain⟨b,hb⟩:=RawR.toK h2 hs.2;obtain⟨f,t,o,c⟩:=r;dsimp only at *;subst ha hb;exact ⟨⟨⟨a,o⟩,⟨b,!c⟩⟩,by unfold RawI.of;simp⟩
noncomputable def eI (r:RawI):Int:=if h:∃ i:Iv K,r=RawI.of i then (if h.choose.f<h.choose.l then 0 else 10) else 5
theorem eI_of (i:Iv K):eI (RawI.of i)=if i.f<i.l then 0 else 10:=by
 have h:∃ j:Iv K,RawI.of i=RawI.of j:=⟨i,rfl⟩;unfold eI;rw [dif_pos h,← RawI.of_inj h.choose_spec]
theorem eI_no {r:RawI} (h:¬ (r.f.isK∧r.t.isK)):eI r=5:=dif_neg (by
 rintro ⟨i,rfl⟩
 exact h ⟨⟨_,i.f.pt.2.1,rfl⟩,⟨_,i.l.pt.2.1,rfl⟩⟩)
theorem ydk (x:RawR):x.cells.length=9:=rfl
theorem ygE (w:World) (b o:Nat) (x:RawR) (hc:∀ k v,x.cells[k]? = some v→w.cell? ⟨b,o+k,none⟩=some v):(loadVar 30 ⟨b,o,none⟩).run prog w = .ok x.v w:=by
 obtain⟨ie,hie,hs⟩:=infoReal;exact Go.Lib.rl_loadVar_cells 30 ie hie isAgg30 b o x.cells (by rw [hs];rfl) w hc
theorem ycM (w:World) (b o:Nat) (r:RawI) (hc:∀ k v,r.cells[k]? = some v→w.cell? ⟨b,o+k,none⟩=some v):(loadVar 32 ⟨b,o,none⟩).run prog w = .ok r.v w:=by
 obtain⟨ie,hie,hs⟩:=infoIv;exact Go.Lib.rl_loadVar_cells 32 ie hie isAgg32 b o r.cells (by rw [hs];rfl) w hc
def RIAt (w:World) (b o:Nat) (r:RawI):Prop:=∀ k v,r.cells[k]? = some v→w.cell? ⟨b,o+k,none⟩=some v
theorem RIAt.frm {w:World} {b o:Nat} {r:RawI} (h:RIAt w b o r):∀ k v,r.f.cells[k]? = some v→w.cell? ⟨b,o+k,none⟩=some v:=fun k v hk=>by
 refine h k v ?_;have hl:k<9:=by have:=(List.getElem?_eq_some_iff.1 hk).1;rwa [ydk] at this
 unfold RawI.cells;rw [List.append_assoc,List.getElem?_append_left (by rw [ydk];exact hl)];exact hk
theorem RIAt.upto {w:World} {b o:Nat} {r:RawI} (h:RIAt w b o r):∀ k v,r.t.cells[k]? = some v→w.cell? ⟨b,o+9+k,none⟩=some v:=fun k v hk=>by
 have hl:k<9:=by have:=(List.getElem?_eq_some_iff.1 hk).1;rwa [ydk] at this
 have:=h (9+k) v (by
  unfold RawI.cells;rw [List.append_assoc,List.getElem?_append_right (by rw [ydk];omega),ydk,List.getElem?_append_left (by rw [ydk];omega),Nat.add_sub_cancel_left]
  exact hk)
 rwa [← Nat.add_assoc] at this
theorem yfd {w:World} {g:Nat} {r:RawI} {t:TypeId} (h:w.heap[g]? = some (.cells r.C t)):RIAt w g 0 r:=fun k v hk=>by
 rw [Nat.zero_add,yac h];exact (List.getElem?_toArray ..).trans hk
end
section
open Classical
section
variable {P:Program} {ops:Array Oper} {Q:Exit→Act→World→Prop}
theorem yeP {rest:List Oper} {o:Oper} {a:Act} {w:World} (hw:Region.wanted o (yielded ops a.tmps)=true)
  (h:∀ K:Act→World→Prop,(∀ a w,wpList P ops Q rest a w→K a w)→o.wp P a w K Q):wpList P ops Q (o :: rest) a w:=by
 unfold wpList;rw [if_pos hw];exact .inl (h _ fun _ _ h=>h)
theorem ydj {rest:List Oper} {o:Oper} {a:Act} {w:World} {v:Value} (hw:Region.wanted o (yielded ops a.tmps)=true) (h:(execOp a.eval o).run P w = .ok (.value v) w)
  (hk:∀ K:Act→World→Prop,(∀ a w,wpList P ops Q rest a w→K a w)→K (a.put o.dst v) w):wpList P ops Q (o :: rest) a w:=yeP hw fun K hK=>ybH v w h (hk K hK)
end
theorem pci_p (r:RawI) (hs:r.sz 100000) (w:World):Calls prog 17 #[r.v] w fun e w'=>e = .returned (.int .i64 (eI r))∧Below w.heap.size w w':=by
 have H1:=jX (rchk_p r.f ⟨Nat.le_trans hs.1.1 (by decide),Nat.le_trans hs.1.2.1 (by decide),Nat.le_trans hs.1.2.2.1 (by decide),Nat.le_trans hs.1.2.2.2 (by decide)⟩);have H2:=jX (rchk_p r.t ⟨Nat.le_trans hs.2.1 (by decide),Nat.le_trans hs.2.2.1 (by decide),Nat.le_trans hs.2.2.2.1 (by decide),Nat.le_trans hs.2.2.2.2 (by decide)⟩);have HLd:=jX (fun (u:World) (g:Nat) (h:u.heap[g]? = some (.cells r.C 32))=>And.intro (ygE u g 0 r.f (yfd h).frm) (ygE u g (0+9) r.t (yfd h).upto));have hv:r.v = .agg r.C:=rfl;by_cases hf:r.f.isK
 ·rw [decide_eq_true hf,show errF true = .int .i64 0 from rfl] at H1
  by_cases ht:r.t.isK
  ·rw [decide_eq_true ht,show errF true = .int .i64 0 from rfl] at H2
   obtain⟨i,hi⟩:=RawI.toI hf ht hs;have he:eI r=if i.f<i.l then 0 else 10:=by rw [hi,eI_of]
   have HLi:=jX (fun (u:World) (g:Nat) (h:u.heap[g]? = some (.cells r.C 32))=>ycM u g 0 r (yfd h));have H3:=jX (yeN i);have H4:=jX (ygD i);have H5:=jX (yfC i.f i.l);have hiv:iv i = .agg r.C:=by rw [hi];rfl
   have hcm:(0≤cmpB i.f i.l) ↔ ¬ i.f<i.l:=by
    have h0:=ydZ i.f i.l;constructor
    ·intro h h2
     have:=h0.2 h2;omega
    intro h;exact Int.not_lt.1 fun h2=>h (h0.1 h2)
   rw [he,hv];rw [hiv] at H3 H4;rw [hv] at HLi;unfold bv at H3 H4 H5;generalize (bcells i.f).toArray=BF at *;generalize (bcells i.l).toArray=BL at *;generalize cmpB i.f i.l=n at *;clear hf ht hs hi he hiv hv;generalize r.f.v=fv at *;generalize r.t.v=tv at *;generalize r.C=C at *;by_cases hlt:i.f<i.l
   ·have hn:¬ 0≤n:=fun h=>(hcm.1 h) hlt
    rw [if_pos hlt];clear hcm hlt;go_enter func17,ntmps17
    go_upto_region 1 with (fail)
    obtain⟨W,ga,hW,ega,Bga,hga,hgW,HkW⟩:=al1h w (.cells C 32);rw [← hW];try rw [ega]
    clear hW ega;have HF:=jX ((HLd.out W ga Bga.out).1);have HT:=jX ((HLd.out W ga Bga.out).2);refine wp_region_lit ?_;refine' yab (v:=_) (by rfl) (?ha1) (fun K hK=>?ka1)
    case ha1=>(go_simp;try rfl)
    go_simp;refine hK _ _ ?_;clear hK K;refine yab (v:=fv) (by rfl) (yad _ _ ⟨ga,0,none⟩ _ rfl rfl HF.out) (fun K hK=>?_);go_simp;refine hK _ _ ?_;clear hK K;refine wpList_plain (by rfl) (fun K hK=>?_);refine yaf 75 #[fv] (by go_simp) ?_;refine (H1.out _).mono ?_;rintro e w1 ⟨rfl,hb1⟩;refine ⟨_,rfl,?_⟩;go_simp;refine hK _ _ ?_;clear hK K;have HB1:=jX (HkW.out.bz.trans (Below.mono hb1 HkW.out.size));have B2ga:=jX ((hb1.block ga (yaa Bga.out)).trans Bga.out);clear Bga;have Bga:=B2ga;clear B2ga;have HT:=jX ((HLd.out w1 ga Bga.out).2);clear hb1 HF;refine' yab (v:=_) (by rfl) (?hb1) (fun K hK=>?kb1)
    case hb1=>(go_simp;try rfl)
    go_simp;refine hK _ _ ?_;clear hK K;refine' yab (v:=_) (by rfl) (?hc1) (fun K hK=>?kc1)
    case hc1=>(go_simp;try rfl)
    go_simp;refine hK _ _ ?_;clear hK K;refine' ydj (v:=_) (by rfl) (?hd1) (fun K hK=>?kd1)
    case hd1=>(go_simp;try rfl)
    go_simp;refine hK _ _ ?_;clear hK K;refine ydj (v:=tv) (by rfl) (yad _ _ ⟨ga,9,none⟩ _ rfl rfl HT.out) (fun K hK=>?_);go_simp;refine hK _ _ ?_;clear hK K;refine yeP (by rfl) (fun K hK=>?_);refine yaf 75 #[tv] (by go_simp) ?_;refine (H2.out _).mono ?_;rintro e w2 ⟨rfl,hb2⟩;refine ⟨_,rfl,?_⟩;go_simp;refine hK _ _ ?_;clear hK K;have HB2:=jX (HB1.out.trans (Below.mono hb2 HB1.out.size));have B2ga:=jX ((hb2.block ga (yaa Bga.out)).trans Bga.out);clear Bga;have Bga:=B2ga;clear B2ga;clear hb2 HT;go_wp2_with fail;have HX:Hid (∀ m:KW w2,(loadVar 32 ⟨ga,0,none⟩).run prog (Wk w2 m) = .ok (.agg C) (Wk w2 m)):=fun m=>HLi.out _ ga (m.k.heap Bga.out (by simp));have Q3:Hid (∀ m:KW w2,Calls prog 77 #[.agg C] (Wk w2 m) fun e w'=>e = .returned (.agg BF)∧∃ m,w'=Wk w2 m):=fun m=>qk m (H3.out _);have Q4:Hid (∀ m:KW w2,Calls prog 78 #[.agg C] (Wk w2 m) fun e w'=>e = .returned (.agg BL)∧∃ m,w'=Wk w2 m):=fun m=>qk m (H4.out _);have Q5:Hid (∀ m:KW w2,Calls prog 76 #[.agg BF,.agg BL] (Wk w2 m) fun e w'=>e = .returned (.int .i64 n)∧∃ m,w'=Wk w2 m):=fun m=>qk m (H5.out _);refine yae (by kernel_rfl) (by kernel_rfl) ?_
    repeat (first
     | go_big_quiet_skip
     | (go_big_quiet_want;first
      | (refine yan _ _ _ (.agg C) rfl rfl (by rintro _ ⟨m,rfl⟩;exact HX.out m) ?_;go_simp;go_big_quiet_on)
      | (go_big_quiet_op;first|go_big_quiet_on|go_big_quiet_call (first
       | (go_at_call 77;with_reducible exact (Q3).out _)|(go_at_call 78;with_reducible exact (Q4).out _)|(go_at_call 76;with_reducible exact (Q5).out _)))))
    refine wpQuiet_nil ?_;rintro w3 ⟨⟨_,hk_w3⟩,rfl⟩;have HB3:=jX (HB2.out.trans (Below.mono hk_w3.bz HB2.out.size));clear hk_w3;go_wp2_with fail;go_ret
    exact ⟨rfl,HB3.out⟩
   have hn:0≤n:=hcm.2 hlt;rw [if_neg hlt];clear hcm hlt;go_enter func17,ntmps17
   go_upto_region 1 with (fail)
   obtain⟨W,ga,hW,ega,Bga,hga,hgW,HkW⟩:=al1h w (.cells C 32);rw [← hW];try rw [ega]
   clear hW ega;have HF:=jX ((HLd.out W ga Bga.out).1);have HT:=jX ((HLd.out W ga Bga.out).2);refine wp_region_lit ?_;refine' yab (v:=_) (by rfl) (?ha4) (fun K hK=>?ka4)
   case ha4=>(go_simp;try rfl)
   go_simp;refine hK _ _ ?_;clear hK K;refine yab (v:=fv) (by rfl) (yad _ _ ⟨ga,0,none⟩ _ rfl rfl HF.out) (fun K hK=>?_);go_simp;refine hK _ _ ?_;clear hK K;refine wpList_plain (by rfl) (fun K hK=>?_);refine yaf 75 #[fv] (by go_simp) ?_;refine (H1.out _).mono ?_;rintro e w1 ⟨rfl,hb1⟩;refine ⟨_,rfl,?_⟩;go_simp;refine hK _ _ ?_;clear hK K;have HB1:=jX (HkW.out.bz.trans (Below.mono hb1 HkW.out.size));have B2ga:=jX ((hb1.block ga (yaa Bga.out)).trans Bga.out);clear Bga;have Bga:=B2ga;clear B2ga;have HT:=jX ((HLd.out w1 ga Bga.out).2);clear hb1 HF;refine' yab (v:=_) (by rfl) (?hb4) (fun K hK=>?kb4)
   case hb4=>(go_simp;try rfl)
   go_simp;refine hK _ _ ?_;clear hK K;refine' yab (v:=_) (by rfl) (?hc4) (fun K hK=>?kc4)
   case hc4=>(go_simp;try rfl)
   go_simp;refine hK _ _ ?_;clear hK K;refine' ydj (v:=_) (by rfl) (?hd4) (fun K hK=>?kd4)
   case hd4=>(go_simp;try rfl)
   go_simp;refine hK _ _ ?_;clear hK K;refine ydj (v:=tv) (by rfl) (yad _ _ ⟨ga,9,none⟩ _ rfl rfl HT.out) (fun K hK=>?_);go_simp;refine hK _ _ ?_;clear hK K;refine yeP (by rfl) (fun K hK=>?_);refine yaf 75 #[tv] (by go_simp) ?_;refine (H2.out _).mono ?_;rintro e w2 ⟨rfl,hb2⟩;refine ⟨_,rfl,?_⟩;go_simp;refine hK _ _ ?_;clear hK K;have HB2:=jX (HB1.out.trans (Below.mono hb2 HB1.out.size));have B2ga:=jX ((hb2.block ga (yaa Bga.out)).trans Bga.out);clear Bga;have Bga:=B2ga;clear B2ga;clear hb2 HT;go_wp2_with fail;have HX:Hid (∀ m:KW w2,(loadVar 32 ⟨ga,0,none⟩).run prog (Wk w2 m) = .ok (.agg C) (Wk w2 m)):=fun m=>HLi.out _ ga (m.k.heap Bga.out (by simp));have Q3:Hid (∀ m:KW w2,Calls prog 77 #[.agg C] (Wk w2 m) fun e w'=>e = .returned (.agg BF)∧∃ m,w'=Wk w2 m):=fun m=>qk m (H3.out _);have Q4:Hid (∀ m:KW w2,Calls prog 78 #[.agg C] (Wk w2 m) fun e w'=>e = .returned (.agg BL)∧∃ m,w'=Wk w2 m):=fun m=>qk m (H4.out _);have Q5:Hid (∀ m:KW w2,Calls prog 76 #[.agg BF,.agg BL] (Wk w2 m) fun e w'=>e = .returned (.int .i64 n)∧∃ m,w'=Wk w2 m):=fun m=>qk m (H5.out _);refine yae (by kernel_rfl) (by kernel_rfl) ?_
   repeat (first
    | go_big_quiet_skip
    | (go_big_quiet_want;first
     | (refine yan _ _ _ (.agg C) rfl rfl (by rintro _ ⟨m,rfl⟩;exact HX.out m) ?_;go_simp;go_big_quiet_on)
     | (go_big_quiet_op;first|go_big_quiet_on|go_big_quiet_call (first
      | (go_at_call 77;with_reducible exact (Q3).out _)|(go_at_call 78;with_reducible exact (Q4).out _)|(go_at_call 76;with_reducible exact (Q5).out _)))))
   refine wpQuiet_nil ?_;rintro w3 ⟨⟨_,hk_w3⟩,rfl⟩;have HB3:=jX (HB2.out.trans (Below.mono hk_w3.bz HB2.out.size));clear hk_w3;go_wp2_with fail;go_ret
   exact ⟨rfl,HB3.out⟩
  rw [decide_eq_false ht,show errF false = .int .i64 5 from rfl] at H2
  have he:eI r=5:=eI_no (fun h=>ht h.2);rw [he,hv];clear hf ht hs he hv;generalize r.f.v=fv at *;generalize r.t.v=tv at *;generalize r.C=C at *;go_enter func17,ntmps17
  go_upto_region 1 with (fail)
  obtain⟨W,ga,hW,ega,Bga,hga,hgW,HkW⟩:=al1h w (.cells C 32);rw [← hW];try rw [ega]
  clear hW ega;have HF:=jX ((HLd.out W ga Bga.out).1);have HT:=jX ((HLd.out W ga Bga.out).2);refine wp_region_lit ?_;refine' yab (v:=_) (by rfl) (?ha2) (fun K hK=>?ka2)
  case ha2=>(go_simp;try rfl)
  go_simp;refine hK _ _ ?_;clear hK K;refine yab (v:=fv) (by rfl) (yad _ _ ⟨ga,0,none⟩ _ rfl rfl HF.out) (fun K hK=>?_);go_simp;refine hK _ _ ?_;clear hK K;refine wpList_plain (by rfl) (fun K hK=>?_);refine yaf 75 #[fv] (by go_simp) ?_;refine (H1.out _).mono ?_;rintro e w1 ⟨rfl,hb1⟩;refine ⟨_,rfl,?_⟩;go_simp;refine hK _ _ ?_;clear hK K;have HB1:=jX (HkW.out.bz.trans (Below.mono hb1 HkW.out.size));have B2ga:=jX ((hb1.block ga (yaa Bga.out)).trans Bga.out);clear Bga;have Bga:=B2ga;clear B2ga;have HT:=jX ((HLd.out w1 ga Bga.out).2);clear hb1 HF;refine' yab (v:=_) (by rfl) (?hb2) (fun K hK=>?kb2)
  case hb2=>(go_simp;try rfl)
  go_simp;refine hK _ _ ?_;clear hK K;refine' yab (v:=_) (by rfl) (?hc2) (fun K hK=>?kc2)
  case hc2=>(go_simp;try rfl)
  go_simp;refine hK _ _ ?_;clear hK K;refine' ydj (v:=_) (by rfl) (?hd2) (fun K hK=>?kd2)
  case hd2=>(go_simp;try rfl)
  go_simp;refine hK _ _ ?_;clear hK K;refine ydj (v:=tv) (by rfl) (yad _ _ ⟨ga,9,none⟩ _ rfl rfl HT.out) (fun K hK=>?_);go_simp;refine hK _ _ ?_;clear hK K;refine yeP (by rfl) (fun K hK=>?_);refine yaf 75 #[tv] (by go_simp) ?_;refine (H2.out _).mono ?_;rintro e w2 ⟨rfl,hb2⟩;refine ⟨_,rfl,?_⟩;go_simp;refine hK _ _ ?_;clear hK K;have HB2:=jX (HB1.out.trans (Below.mono hb2 HB1.out.size));have B2ga:=jX ((hb2.block ga (yaa Bga.out)).trans Bga.out);clear Bga;have Bga:=B2ga;clear B2ga;clear hb2 HT;go_wp2_with fail;go_ret
  exact ⟨rfl,HB2.out⟩
 rw [decide_eq_false hf,show errF false = .int .i64 5 from rfl] at H1
 have he:eI r=5:=eI_no (fun h=>hf h.1);rw [he,hv];clear hf hs he hv H2;generalize r.f.v=fv at *;generalize r.t.v=tv at *;generalize r.C=C at *;go_enter func17,ntmps17
 go_upto_region 1 with (fail)
 obtain⟨W,ga,hW,ega,Bga,hga,hgW,HkW⟩:=al1h w (.cells C 32);rw [← hW];try rw [ega]
 clear hW ega;have HF:=jX ((HLd.out W ga Bga.out).1);have HT:=jX ((HLd.out W ga Bga.out).2);refine wp_region_lit ?_;refine' yab (v:=_) (by rfl) (?ha3) (fun K hK=>?ka3)
 case ha3=>(go_simp;try rfl)
 go_simp;refine hK _ _ ?_;clear hK K;refine yab (v:=fv) (by rfl) (yad _ _ ⟨ga,0,none⟩ _ rfl rfl HF.out) (fun K hK=>?_);go_simp;refine hK _ _ ?_;clear hK K;refine wpList_plain (by rfl) (fun K hK=>?_);refine yaf 75 #[fv] (by go_simp) ?_;refine (H1.out _).mono ?_;rintro e w1 ⟨rfl,hb1⟩;refine ⟨_,rfl,?_⟩;go_simp;refine hK _ _ ?_;clear hK K;have HB1:=jX (HkW.out.bz.trans (Below.mono hb1 HkW.out.size));have B2ga:=jX ((hb1.block ga (yaa Bga.out)).trans Bga.out);clear Bga;have Bga:=B2ga;clear B2ga;have HT:=jX ((HLd.out w1 ga Bga.out).2);clear hb1 HF;go_wp2_with fail;go_ret
 exact ⟨rfl,HB1.out⟩
end
section
open Classical
noncomputable def chkL:Option (Iv K)→List RawI→Int
 | _,[]=>0
 | p, r :: l => if h : ∃ i : Iv K, r = RawI.of i then
   (if h.choose.f<h.choose.l then
    (match p with
    | none=>chkL (some h.choose) l
    | some b=>if h.choose.f.pt<b.l.pt∨h.choose.f<b.l then 11 else if b.l=h.choose.f then 5 else chkL (some h.choose) l)
   else 10)
  else 5
theorem chkL_err {r:RawI} (h:eI r≠0) (p:Option (Iv K)) (l:List RawI):chkL p (r :: l)=eI r:=by
 unfold chkL eI at *;by_cases hx:∃ i:Iv K,r=RawI.of i
 ·rw [dif_pos hx] at h ⊢
  rw [dif_pos hx];by_cases hl:hx.choose.f<hx.choose.l
  ·rw [if_pos hl] at h
   exact absurd rfl h
  rw [if_neg hl,if_neg hl]
 rw [dif_neg hx,dif_neg hx]
theorem eI_zero {r:RawI} (h:eI r=0):∃ i:Iv K,r=RawI.of i∧i.f<i.l:=by
 unfold eI at h;by_cases hx:∃ i:Iv K,r=RawI.of i
 ·rw [dif_pos hx] at h
  by_cases hl:hx.choose.f<hx.choose.l
  ·exact ⟨hx.choose,hx.choose_spec,hl⟩
  rw [if_neg hl] at h;exact absurd h (by decide)
 rw [dif_neg hx] at h;exact absurd h (by decide)
theorem yew {i:Iv K} (h:i.f<i.l) (l:List RawI):chkL none (RawI.of i :: l)=chkL (some i) l:=by
 have hx:∃ j:Iv K,RawI.of i=RawI.of j:=⟨i,rfl⟩;have he:hx.choose=i:=(RawI.of_inj hx.choose_spec).symm;rw [chkL,dif_pos hx];simp only [he];rw [if_pos h]
theorem yfg {i b:Iv K} (h:i.f<i.l) (l:List RawI):chkL (some b) (RawI.of i :: l)=if i.f.pt<b.l.pt∨i.f<b.l then 11 else if b.l=i.f then 5 else chkL (some i) l:=by
 have hx:∃ j:Iv K,RawI.of i=RawI.of j:=⟨i,rfl⟩;have he:hx.choose=i:=(RawI.of_inj hx.choose_spec).symm;rw [chkL,dif_pos hx];simp only [he];rw [if_pos h]
abbrev RIR:=RowE (fun r:RawI=>r.cells)
theorem rawi_len (r:RawI):r.cells.length=20:=rfl
theorem RIR.elem {w:World} {a:Option Addr} {n c:Nat} {l:List RawI} (h:RIR w (.slice a n c) l) (i:Nat) (hi:i<l.length):∃ g o,a=some ⟨g,o,none⟩∧g<w.heap.size∧RIAt w g (o+i*20) l[i]:=RowE.elem rawi_len h i hi
def RIQ (w:World) (sv:Value) (l:List RawI):Prop:=∃ a c,sv = .slice a l.length c∧(l=[]∨RIR w sv l)
theorem RIQ.elem {w:World} {a:Option Addr} {n c:Nat} {l:List RawI} (h:RIQ w (.slice a n c) l) (i:Nat) (hi:i<l.length):∃ g o,a=some ⟨g,o,none⟩∧g<w.heap.size∧RIAt w g (o+i*20) l[i]:=by
 obtain⟨_,_,_,h⟩:=h;rcases h with rfl|h
 ·exact absurd hi (Nat.not_lt_zero _)
 exact h.elem i hi
theorem RowE.laterB {α:Type} {enc:α→List Value} {w w':World} {sv:Value} {l:List α} (h:RowE enc w sv l) (hb:Below w.heap.size w w'):RowE enc w' sv l:=by
 rcases h with h|⟨g,o,c,rfl,hc,hg,hx⟩
 ·exact .inl h
 refine .inr ⟨g,o,c,rfl,hc,Nat.lt_of_lt_of_le hg hb.size,fun i v hv=>?_⟩;rw [World.cell?_of_block (hb.block g hg)];exact hx i v hv
theorem RIQ.laterB {w w':World} {sv:Value} {l:List RawI} (h:RIQ w sv l) (hb:Below w.heap.size w w'):RIQ w' sv l:=by
 obtain⟨a,c,h1,h2⟩:=h;exact ⟨a,c,h1,h2.imp id (fun h=>h.laterB hb)⟩
theorem RIQ.later {w w':World} {sv:Value} {l:List RawI} (h:RIQ w sv l) (hk:Keep [] w w'):RIQ w' sv l:=h.laterB hk.bz
def ChkAt (l:List RawI) (k:Nat) (p:Option (Iv K)):Prop:=chkL none l=chkL p (l.drop k)∧(k=0→p=none)∧(∀ j (hj:j<l.length),k=j+1→∃ b:Iv K,p=some b∧l[j]=RawI.of b)
theorem ChkAt.start (l:List RawI):ChkAt l 0 none:=⟨rfl,fun _=>rfl,fun j _ h=>by omega⟩
theorem ChkAt.err {l:List RawI} {k:Nat} {p:Option (Iv K)} (h:ChkAt l k p) (hk:k<l.length) (he:eI l[k]≠0):chkL none l=eI l[k]:=by
 rw [h.1,List.drop_eq_getElem_cons hk];exact chkL_err he _ _
theorem ChkAt.zero {l:List RawI} {p:Option (Iv K)} (h:ChkAt l 0 p) (hk:0<l.length) {i:Iv K} (hi:l[0]=RawI.of i) (hv:i.f<i.l):ChkAt l 1 (some i):=by
 have hp:=h.2.1 rfl;subst hp;refine ⟨?_,fun h=>by omega,fun j hj h=>?_⟩
 ·have h1:=h.1
  rw [List.drop_eq_getElem_cons hk,hi,yew hv] at h1;exact h1
 obtain rfl:j=0:=by omega
 exact ⟨i,rfl,hi⟩
theorem ChkAt.next {l:List RawI} {j:Nat} {p:Option (Iv K)} (h:ChkAt l (j+1) p) (hk:j+1<l.length) {i:Iv K} (hi:l[j+1]=RawI.of i) (hv:i.f<i.l) :
  ∃ b:Iv K,l[j]'(by omega)=RawI.of b∧((i.f.pt<b.l.pt∨i.f<b.l)→chkL none l=11)∧(¬ (i.f.pt<b.l.pt∨i.f<b.l)→b.l=i.f→chkL none l=5)∧(¬ (i.f.pt<b.l.pt∨i.f<b.l)→b.l≠i.f→ChkAt l (j+2) (some i)):=by
 obtain⟨b,rfl,hb⟩:=h.2.2 j (by omega) rfl;have h1:=h.1;rw [List.drop_eq_getElem_cons hk,hi,yfg hv] at h1;refine ⟨b,hb,fun ho=>by rw [h1,if_pos ho],fun ho he=>by rw [h1,if_neg ho,if_pos he],fun ho he=>⟨by rw [h1,if_neg ho,if_neg he],fun h=>by omega,fun j' hj' h=>?_⟩⟩;obtain rfl:j'=j+1:=by omega
 exact ⟨i,rfl,hi⟩
theorem ChkAt.done {l:List RawI} {p:Option (Iv K)} (h:ChkAt l l.length p):chkL none l=0:=by
 rw [h.1,List.drop_length];rfl
end
end Go.Proofs.YtpgffjjpiafhpaaGreatDoor
