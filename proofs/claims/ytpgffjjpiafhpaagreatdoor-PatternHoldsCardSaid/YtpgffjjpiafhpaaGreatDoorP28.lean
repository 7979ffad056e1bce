/- Parts of a proof: Ff Fg Qz Fq. -/
import Derived.Test.YtpgffjjpiafhpaaGreatDoorP25
import Derived.Test.YtpgffjjpiafhpaaGreatDoorP21
import Derived.Test.YtpgffjjpiafhpaaGreatDoorP10
import Derived.Test.YtpgffjjpiafhpaaGreatDoorP23
import Derived.Test.YtpgffjjpiafhpaaGreatDoorP18
import Derived.Test.YtpgffjjpiafhpaaGreatDoorP01
import Derived.Test.YtpgffjjpiafhpaaGreatDoorP26
set_option linter.unusedVariables false
set_option linter.unusedSimpArgs false
set_option maxRecDepth 100000
set_option maxHeartbeats 8000000
namespace Go.Proofs.YtpgffjjpiafhpaaGreatDoor
open Go.RowKit Tryz
section
open Go.RowKit Go.Lib
theorem QMake_c (a b:Int) (ha:Fit 100000000000 a) (hb:Fit 100000000000 b) (h0:0<b) (w:World) :
  Calls Tryz.prog 110 #[zv a,zv b] w fun e w'=>e = .returned (.tuple #[rv (Rat.divInt a b),.int .i64 0])∧Keep [] w w':=by
 have H1:=jX (Sign_c b);rw [show zsgn b=1 by unfold zsgn;rw [if_neg (by omega),if_neg (by omega)]] at H1
 have H2:=jX (ybR a b ha hb h0);unfold rv zv at *;generalize sgB (Rat.divInt a b).num=nr at *;generalize mgS (Rat.divInt a b).num=sr at *;generalize dnS (Rat.divInt a b).den=dr at *;generalize sgB (a)=na at *;generalize mgS (a)=sa at *;generalize sgB (b)=nb at *;generalize mgS (b)=sb at *;clear ha hb h0;go_enter Tryz.func110,Tryz.ntmps110
 go_upto_region 1 with (fail)
 obtain⟨W,ga,gb,gc,hW,ega,egb,egc,Bga,Bgb,Bgc,hga,hgb,hgc,hgW,HkW⟩:=al3h w (.cells #[.bool na,.string sa] 26) (.cells #[.bool nb,.string sb] 26) (.cells #[.bool false,.string ⟨#[]⟩,.bool false,.string ⟨#[]⟩] 28);rw [← hW];try rw [egc]
 try rw [egb]
 try rw [ega]
 clear hW ega egb egc;obtain⟨pgb,fgb,lgb⟩:=jQ Bgb;go_wp2_with fail;refine (H1.out _).mono ?_;rintro e w1 ⟨rfl,hk1⟩;dsimp only;clear pgb fgb lgb;replace Bga:=jH hk1 Bga;replace Bgb:=jH hk1 Bgb;replace Bgc:=jH hk1 Bgc;replace HkW:=jX (HkW.out.tz hk1);clear hk1;go_upto_region 3 with (fail)
 obtain⟨pga,fga,lga⟩:=jQ Bga;obtain⟨pgb,fgb,lgb⟩:=jQ Bgb;go_wp2_with fail;refine (H2.out _).mono ?_;rintro e w2 ⟨rfl,hk2⟩;dsimp only;clear pga fga lga pgb fgb lgb;replace Bga:=jH hk2 Bga;replace Bgb:=jH hk2 Bgb;replace Bgc:=jH hk2 Bgc;replace HkW:=jX (HkW.out.tz hk2);clear hk2;obtain⟨pgc,fgc,lgc⟩:=jQ Bgc;go_wp2_with fail;refine bodyPost_ret (v:=.tuple #[.agg #[.bool nr,.string sr,.bool false,.string dr],.int .i64 0]) ?_ rfl ⟨rfl,by repeat (first|(with_reducible exact HkW.out)|(refine Keep.sP ?_ _ _ _ (by omega))|(refine Keep.aP ?_ _)|(refine Keep.dP ?_))⟩;rw [results_cell_tmp rfl];go_simp
theorem QFromInts_c (a b:Int) (h0:0<b) (a1 : -9223372036854775808≤a) (a2:a≤9223372036854775807) (b2:b≤9223372036854775807) (w:World) :
  Calls Tryz.prog 52 #[.int .i64 a,.int .i64 b] w fun e w'=>e = .returned (.tuple #[rv (Rat.divInt a b),.int .i64 0])∧Keep [] w w':=by
 have HA:=jX (FromInt_c a a1 a2);have HB:=jX (FromInt_c b (by omega) b2);have fa:Fit 8 a:=Fit_iff.2 (by omega);have fb:Fit 8 b:=Fit_iff.2 (by omega);have HC:=jX (QMake_c a b (fa.mono (by decide)) (fb.mono (by decide)) h0);clear fa fb h0 a1 a2 b2;unfold rv at HC;unfold rv;unfold zv at *;generalize sgB (Rat.divInt a b).num=nr at *;generalize mgS (Rat.divInt a b).num=sr at *;generalize dnS (Rat.divInt a b).den=dr at *;generalize sgB (a)=na at *;generalize mgS (a)=sa at *;generalize sgB (b)=nb at *;generalize mgS (b)=sb at *;go_enter Tryz.func52,Tryz.ntmps52
 go_wp2_with fail;obtain⟨W,ga,hW,ega,Bga,hga,hgW,HkW⟩:=al1h w (.cells #[.bool false,.string ⟨#[]⟩,.bool false,.string ⟨#[]⟩] 28);rw [← hW];try rw [ega]
 clear hW ega;go_wp2_with fail;refine (HA.out _).mono ?_;rintro e w1 ⟨rfl,hk1⟩;dsimp only;replace Bga:=jH hk1 Bga;replace HkW:=jX (HkW.out.tz hk1);clear hk1;go_wp2_with fail;refine (HB.out _).mono ?_;rintro e w2 ⟨rfl,hk2⟩;dsimp only;replace Bga:=jH hk2 Bga;replace HkW:=jX (HkW.out.tz hk2);clear hk2;go_wp2_with fail;refine (HC.out _).mono ?_;rintro e w3 ⟨rfl,hk3⟩;dsimp only;replace Bga:=jH hk3 Bga;replace HkW:=jX (HkW.out.tz hk3);clear hk3;obtain⟨pga,fga,lga⟩:=jQ Bga;go_wp2_with fail;refine bodyPost_ret (v:=.tuple #[.agg #[.bool nr,.string sr,.bool false,.string dr],.int .i64 0]) ?_ rfl ⟨rfl,by repeat (first|(with_reducible exact HkW.out)|(refine Keep.sP ?_ _ _ _ (by omega))|(refine Keep.aP ?_ _)|(refine Keep.dP ?_))⟩;rw [results_cell_tmp rfl];go_simp
theorem yfA (n:Int) (h:n.natAbs≤1000) (w:World):Calls Tryz.prog 52 #[.int .i64 n,.int .i64 2] w fun e w'=>e = .returned (.tuple #[rv (half n),.int .i64 0])∧Keep [] w w' :=
 QFromInts_c n 2 (by decide) (by omega) (by omega) (by decide) w
theorem FromRat_c (q:Rat) (h:FitQ 100000 q) (w:World):Calls Tryz.prog 84 #[rv q] w fun e w'=>e = .returned (kv (kQ q h))∧Keep [] w w':=by
 have HB:=jX (yga q h);have hC:=kQ_C q h;have e1:kv (kQ q h) = .agg (kC (kQ q h)):=rfl;rw [e1];rw [hC] at *;unfold rv at *;generalize sgB (q).num=nr at *;generalize mgS (q).num=sr at *;generalize dnS (q).den=dr at *;clear hC e1;go_enter Tryz.func84,Tryz.ntmps84
 go_upto_region 1 with (fail)
 obtain⟨W,ga,gb,hW,ega,egb,Bga,Bgb,hga,hgb,hgW,HkW⟩:=al2h w (.cells #[.bool nr,.string sr,.bool false,.string dr] 28) (.cells #[.bool false,.string ⟨#[]⟩,.bool false,.string ⟨#[]⟩,.bool false,.string ⟨#[]⟩,.bool false,.string ⟨#[]⟩,.bool false] 30);rw [← hW];try rw [egb]
 try rw [ega]
 clear hW ega egb;obtain⟨pga,fga,lga⟩:=jQ Bga;obtain⟨pgb,fgb,lgb⟩:=jQ Bgb;go_wp2_with fail;refine bodyPost_ret (v:=.agg #[.bool nr,.string sr,.bool false,.string dr,.bool false,.string ⟨#[]⟩,.bool false,.string ⟨#[]⟩,.bool false]) ?_ rfl ⟨rfl,by repeat (first|(with_reducible exact HkW.out)|(refine Keep.sP ?_ _ _ _ (by omega))|(refine Keep.aP ?_ _)|(refine Keep.dP ?_))⟩;rw [yaj rfl];go_simp
end
section
open Go.RowKit Go.Lib
theorem sgn_two:sgn (2:Rat)=1:=by decide
theorem Make2_c (p:Rat) (hp:FitQ 1000 p) (n:Int) (hn:n.natAbs≤1000) (h0:0≤n) (w:World) :
  Calls Tryz.prog 104 #[rv p,rv (n:Rat),rv (2:Rat)] w fun e w'=>e = .returned (.tuple #[qv ⟨p,(n:Rat)*n*2,false⟩,.int .i64 0])∧Below w.heap.size w w':=by
 have f2:FitQ 2 (2:Rat):=ybw (n:=2) (by decide);have fn:=ybw (n:=n) (by omega);have H1:=jX (QSign_c (2:Rat));rw [sgn_two] at H1
 have H2:Hid (∀ u,Calls Tryz.prog 125 #[rv (2:Rat)] u fun e w'=>∃ q,e = .returned (.tuple #[rv q,.bool false])∧Below u.heap.size u w'):=fun u=>by
  refine (proot_p 2 (f2.mono (by decide)) u).mono ?_;rintro e w' ⟨q,ok,rfl,hq,hb⟩;cases ok with
  | false=>exact ⟨q,rfl,hb⟩
  | true=>exact absurd (hq.1 rfl).2 (two_sq q)
 have H3:=jX (QMul_c (n:Rat) n (fn.mono (by decide)) (fn.mono (by decide)));have H4:=jX (QMul_c ((n:Rat)*n) 2 ((FitQ.mul fn fn).mono (by decide)) (f2.mono (by decide)));have H5:=jX (QSign_c (n:Rat))
 have hn0:(0:Rat)≤(n:Rat):=by
  have:=(yeM (a:=0) (b:=n)).2 h0
  simpa using this
 have hs:decide (sgn (n:Rat)<0)=false:=by
  rw [decide_eq_false_iff_not];rcases yaS (n:Rat) with ⟨h,h2⟩|⟨h,h2⟩|⟨h,h2⟩<;>rw [h2]<;>first|grind|decide
 generalize sgn (n:Rat)=sn at *;unfold qv rv at *;dsimp only;generalize sgB ((n:Rat)*n*2).num=n1 at *;generalize mgS ((n:Rat)*n*2).num=s1 at *;generalize dnS ((n:Rat)*n*2).den=d1 at *;generalize sgB ((n:Rat)*n).num=n2 at *;generalize mgS ((n:Rat)*n).num=s2 at *;generalize dnS ((n:Rat)*n).den=d2 at *;generalize sgB (((n:Rat))).num=n3 at *;generalize mgS (((n:Rat))).num=s3 at *;generalize dnS (((n:Rat))).den=d3 at *;generalize sgB ((2:Rat)).num=n4 at *;generalize mgS ((2:Rat)).num=s4 at *;generalize dnS ((2:Rat)).den=d4 at *;generalize sgB (p).num=n5 at *;generalize mgS (p).num=s5 at *;generalize dnS (p).den=d5 at *;have HB:=jX (ygl (.bool n5) (.string s5) (.bool false) (.string d5) (.bool n1) (.string s1) (.bool false) (.string d1) false);clear f2 fn hp hn h0 hn0;go_enter Tryz.func104,Tryz.ntmps104
 go_upto_region 1 with (fail)
 obtain⟨W,ga,gb,gc,gd,hW,ega,egb,egc,egd,Bga,Bgb,Bgc,Bgd,hga,hgb,hgc,hgd,hgW,HkW⟩:=al4h w (.cells #[.bool n5,.string s5,.bool false,.string d5] 28) (.cells #[.bool n3,.string s3,.bool false,.string d3] 28) (.cells #[.bool n4,.string s4,.bool false,.string d4] 28) (.cells #[.bool false,.string ⟨#[]⟩,.bool false,.string ⟨#[]⟩,.bool false,.string ⟨#[]⟩,.bool false,.string ⟨#[]⟩,.bool false] 30);rw [← hW];try rw [egd]
 try rw [egc]
 try rw [egb]
 try rw [ega]
 clear hW ega egb egc egd;obtain⟨pgc,fgc,lgc⟩:=jQ Bgc;go_wp2_with fail;refine (H1.out _).mono ?_;rintro e w1 ⟨rfl,hk1⟩;dsimp only;clear pgc fgc lgc;replace Bga:=jH hk1 Bga;replace Bgb:=jH hk1 Bgb;replace Bgc:=jH hk1 Bgc;replace Bgd:=jH hk1 Bgd;replace HkW:=jX (HkW.out.tz hk1);clear hk1;go_upto_region 3 with (fail)
 obtain⟨pgc,fgc,lgc⟩:=jQ Bgc;go_wp2_with fail;refine (H2.out _).mono ?_;rintro e w2 ⟨q,rfl,hb2⟩;dsimp only;clear pgc fgc lgc;have B2ga:=jX ((hb2.block ga (yaa Bga.out)).trans Bga.out);clear Bga;have Bga:=B2ga;clear B2ga;have B2gb:=jX ((hb2.block gb (yaa Bgb.out)).trans Bgb.out);clear Bgb;have Bgb:=B2gb;clear B2gb;have B2gc:=jX ((hb2.block gc (yaa Bgc.out)).trans Bgc.out);clear Bgc;have Bgc:=B2gc;clear B2gc;have B2gd:=jX ((hb2.block gd (yaa Bgd.out)).trans Bgd.out);clear Bgd;have Bgd:=B2gd;clear B2gd;have HBW:=jX (HkW.out.bz.trans (Below.mono hb2 HkW.out.size));clear hb2;generalize sgB (q).num=n6 at *;generalize mgS (q).num=s6 at *;generalize dnS (q).den=d6 at *;go_upto_region 6 with (fail)
 obtain⟨W2,ge,hW2,ege,bge,hge,hgW2,hkW2⟩:=al1 w2 (.cells #[.bool n6,.string s6,.bool false,.string d6] 28);rw [← hW2];try rw [ege]
 have Bge:=jX bge;clear hW2 ege bge;have Bga:=jX (hkW2.heap Bga.out (by simp));have Bgb:=jX (hkW2.heap Bgb.out (by simp));have Bgc:=jX (hkW2.heap Bgc.out (by simp));have Bgd:=jX (hkW2.heap Bgd.out (by simp));have HBW:=jX (HBW.out.trans (Below.mono hkW2.bz HBW.out.size));clear hkW2;have Q1:Hid (∀ m:KW W2,Calls Tryz.prog 131 #[.agg #[.bool n3,.string s3,.bool false,.string d3],.agg #[.bool n3,.string s3,.bool false,.string d3]] (Wk W2 m) fun e w'=>e = .returned (.agg #[.bool n2,.string s2,.bool false,.string d2])∧∃ m,w'=Wk W2 m):=fun m=>qk m (H3.out _);have Q2:Hid (∀ m:KW W2,Calls Tryz.prog 131 #[.agg #[.bool n2,.string s2,.bool false,.string d2],.agg #[.bool n4,.string s4,.bool false,.string d4]] (Wk W2 m) fun e w'=>e = .returned (.agg #[.bool n1,.string s1,.bool false,.string d1])∧∃ m,w'=Wk W2 m):=fun m=>qk m (H4.out _);have Q3:Hid (∀ m:KW W2,Calls Tryz.prog 121 #[.agg #[.bool n3,.string s3,.bool false,.string d3]] (Wk W2 m) fun e w'=>e = .returned (.int .i64 sn)∧∃ m,w'=Wk W2 m):=fun m=>qk m (H5.out _);have kga:=yag Bga.out;have kgb:=yag Bgb.out;have kgc:=yag Bgc.out;clear H1 H2 H3 H4 H5;refine yal 10 (by kernel_rfl) (by kernel_rfl) ?_;simp only [List.take_succ_cons,List.take_zero,List.drop_succ_cons,List.drop_zero]
 repeat (first
  | go_big_quiet_skip
  | (go_big_quiet_want;first
   | (refine ycA _ _ #[(0,.agg #[.bool n5,.string s5,.bool false,.string d5]),(1,.agg #[.bool n1,.string s1,.bool false,.string d1]),(2,.bool false)] (#[.bool n5,.string s5,.bool false,.string d5,.bool n1,.string s1,.bool false,.string d1,.bool false]) rfl (by simp only [List.map_toArray,List.map_cons,List.map_nil];rfl) HB.out ?_;go_simp;go_big_quiet_on)
   | (go_big_quiet_op;first|go_big_quiet_on|go_big_quiet_call (first
    | (go_at_call 131;with_reducible exact (Q1).out _)|(go_at_call 131;with_reducible exact (Q2).out _)|(go_at_call 121;with_reducible exact (Q3).out _)))))
 refine wpQuiet_nil ?_;rintro w3 ⟨⟨_,hk_w3⟩,rfl⟩;have Bgd:=jX (hk_w3.heap Bgd.out (by simp));obtain⟨b0,hbs,hbk,hbf⟩:=below_via (HBW.out.trans (Below.mono hk_w3.bz HBW.out.size));have HkW:=jX hbk;have Hbf:=jX hbf;clear hk_w3 hbk hbf;obtain⟨pgd,fgd,lgd⟩:=jQ Bgd;go_wp2_with fail;refine bodyPost_ret (v:=.tuple #[.agg #[.bool n5,.string s5,.bool false,.string d5,.bool n1,.string s1,.bool false,.string d1,.bool false],.int .i64 0]) ?_ rfl ⟨rfl,?_⟩;rw [results_cell_tmp rfl];go_simp;exact Hbf.out _ (by repeat (first|(with_reducible exact HkW.out)|(refine Keep.sP ?_ _ _ _ (by omega))|(refine Keep.aP ?_ _)|(refine Keep.dP ?_)))
end
section
variable {P:Program} {ops:Array Oper} {md:Region.Mode} {S:World→Prop} {Q:Exit→Act→World→Prop}
theorem yel {n i:Nat} {oi:Oper} {v:Value} {L:Array Bool→Act→World→Prop} (hi:ops[i]? = some oi) (hsel:∀ (j:Nat) (o:Oper) cs b,ops[j]? = some o→o.op ≠ .select cs b)
  (hQ:∀ c a w,Q (.panic c) (a.put oi.dst v) w→Q (.panic c) a w)
  (hn:n=ops.size) (hin:i<n)
  (hdone:∀ listed a w,L listed a w→∀ j∈Region.ready md ops listed,n≤j) :
  ∀ (f:Nat) (listed:Array Bool) (a:Act) (w:World),HeadInv md ops n listed →
   (∀ j oj,ops[j]? = some oj→j≠i→listed.getD j true=false→(∀ e∈oj.after,Region.binds md e=true→e.on≠i)→oi.apart ops oj=true) →
   i∈Region.ready md ops listed→YieldsIf P ops S oi v a→S w →
   yca P md ops Q S n L f (listed.setIfInBounds i true) (a.put oi.dst v) w→yca P md ops Q S n L (f+1) listed a w:=by
 intro f;induction f with
 | zero =>
  intro listed a w inv _ hr hy hS H;refine ⟨fun h=>(by rw [h] at hr;cases hr),fun j hj=>?_⟩
  have hjn:j<n:=by
   obtain⟨_,_,hoj,_⟩:=mem_ready.1 hj;rw [hn];exact (Array.getElem?_eq_some_iff.1 hoj).1
  refine ⟨hjn,?_⟩;by_cases hji:j=i
  ·subst hji;exact hy.wpOp hi hS ⟨hS,H⟩
  have:=hdone _ _ _ H j (ready_mono hj hji);omega
 | succ f ih =>
  intro listed a w inv hfree hr hy hS H;have hun:=(mem_ready.1 hr).1;refine ⟨fun h=>(by rw [h] at hr;cases hr),fun j hj=>?_⟩
  have hjn:j<n:=by
   obtain⟨_,_,hoj,_⟩:=mem_ready.1 hj;rw [hn];exact (Array.getElem?_eq_some_iff.1 hoj).1
  refine ⟨hjn,?_⟩;by_cases hji:j=i
  ·subst hji;exact hy.wpOp hi hS ⟨hS,H⟩
  have h1:=(H.2 j (ready_mono hj hji)).2;obtain⟨hjun,oj,hoj,hall⟩:=mem_ready.1 hj
  have hnot:∀ e∈oj.after,Region.binds md e=true→e.on≠i:=fun e he hb heq=>by
   have h1:=hall e he hb;rw [heq,getD_both hun] at h1;cases h1
  have h2:=wpOp_putIf hoj (hfree j oj hoj hji hjun hnot) (fun cs b=>hsel i oi cs b hi) (fun cs b=>hsel j oj cs b hoj) hQ hy h1
  have hfree' : ∀ k ok, ops[k]? = some ok → k ≠ i → (listed.setIfInBounds j true).getD k true = false →
    (∀ e∈ok.after,Region.binds md e=true→e.on≠i)→oi.apart ops ok=true:=fun k ok hk hki hun hno=>by
   refine hfree k ok hk hki ?_ hno;by_cases hjk:j=k
   ·subst hjk;exact hjun
   rw [getD_set_ne true hjk] at hun;exact hun
  refine wpOp_mono (fun a' w' h3=>⟨h3.2.1,ih (listed.setIfInBounds j true) a' w' (inv.set hj hjn) hfree' (ready_mono hr (Ne.symm hji)) h3.1 h3.2.1 ?_⟩) h2;rw [Array.setIfInBounds_comm _ _ hji];exact h3.2.2
theorem ydg {n:Nat} {L:Array Bool→Act→World→Prop} (hsel:Region.noSelect ops=true) (hQ:∀ c a d v w,Q (.panic c) (Act.put a d v) w→Q (.panic c) a w)
  (hn:n=ops.size) (hdone:∀ listed a w,L listed a w→∀ j∈Region.ready md ops listed,n≤j) :
  ∀ (f:Nat) (listed:Array Bool) (a:Act) (w:World),HeadInv md ops n listed→yaZ P md ops Q S n L f listed a w→yca P md ops Q S n L f listed a w
 | 0,_,_,_,_,h=>h
 | f+1,listed,a,w,inv,h=>by
  rcases h with ⟨i,o,v,ho,hi,hf,hr,hy,hS,hrest⟩|⟨hne,hall⟩
  ·have hr':i∈Region.ready md ops listed:=by simpa using hr
   exact yel ho (Region.noSelect_spec hsel) (fun c a w h=>hQ c _ _ _ w h) hn hi hdone f listed a w inv (Region.free_spec ho hf) hr' hy hS
    (ydg hsel hQ hn hdone f _ _ _ (inv.set hr' hi) hrest)
  exact ⟨hne,fun i hi=>⟨(hall i hi).1,wpOp_mono (fun a' w' h'=>⟨h'.1,ydg hsel hQ hn hdone f _ _ _ (inv.set hi (hall i hi).1) h'.2⟩) (hall i hi).2⟩⟩
theorem yby {id:Nat} {a:Act} {w:World} {l:List Oper} (n:Nat) (hm:P.follows .mixedOrders=true)
  (hB:(Region.noSelect l.toArray&&decide (n=l.toArray.size))=true)
  (hQ:∀ c a d v w,Q (.panic c) (Act.put a d v) w→Q (.panic c) a w)
  (h:yaZ P .any l.toArray Q S n (fun listed' a' w'=>Region.seqB .any l.toArray (l.toArray.size-n) n listed'=true∧wpList P l.toArray Q (l.drop n) a' w') n (Array.replicate l.toArray.size false) a w.drew):(Code.region id l.toArray true).wp P Q a w:=by
 simp only [Bool.and_eq_true,decide_eq_true_eq] at hB;obtain⟨hsel,hn⟩:=hB;have hdl:(l.drop n).length=l.toArray.size-n:=by simp
 have inv0:HeadInv .any l.toArray n (Array.replicate l.toArray.size false) :=
  ⟨by simp,fun j oj _ hl=>(by rw [getD_replicate_false] at hl;cases hl),fun t _ ht=>getD_in (by simpa using ht) (getD_replicate_false _ _)⟩
 have H:=ydg hsel hQ hn (fun listed a w hL=>seqB_ready hL.1) n _ a _ inv0 h;refine wp_region_any hm ?_
 have:=ycB (Q:=Q) (g:=l.toArray.size-n) (fun listed a' w' hL=>by
  have:=wpAny_of_seq (md:=.any) (Q':=Q) (l.drop n) n listed a' w' (fun j=>by simp [List.getElem?_drop]) (by rw [hdl];exact hL.1) hL.2
  rwa [hdl] at this) _ _ _ _ H
 rw [show n+(l.toArray.size-n)=l.toArray.size by omega] at this
 exact this
end
section
open Classical
theorem infoStB:(prog.info? 65).map (fun i=>(i.zero.map Value.cells,i.size,i.bytes))=some (some #[.slice none 0 0,.bool false,.string ⟨#[]⟩,.bool false,.string ⟨#[]⟩,.bool false,.string ⟨#[]⟩,.bool false,.string ⟨#[]⟩,.bool false,.string ⟨#[]⟩,.bool false,.string ⟨#[]⟩],13,168):=by kernel_rfl
theorem st_info:∃ i z,prog.info? 65=some i∧i.zero=some z∧i.size=13∧i.bytes=168∧z.cells = #[.slice none 0 0,.bool false,.string ⟨#[]⟩,.bool false,.string ⟨#[]⟩,.bool false,.string ⟨#[]⟩,.bool false,.string ⟨#[]⟩,.bool false,.string ⟨#[]⟩,.bool false,.string ⟨#[]⟩]:=by
 have h:=infoStB;cases hi:prog.info? 65 with
 | none=>rw [hi] at h;cases h
 | some i =>
  rw [hi] at h;simp only [Option.map_some,Option.some.injEq,Prod.mk.injEq] at h;obtain⟨h1,h2,h3⟩:=h;cases hz:i.zero with
  | none=>rw [hz] at h1;cases h1
  | some z =>
   rw [hz] at h1;injection h1 with h1;exact ⟨i,z,rfl,hz,h2,h3,h1⟩
theorem put13g (a1 a2 a3 a4 a5 a6 a7 a8 a9 a10 a11 a12 a13 b1 b2 b3 b4:Value):yba #[a1,a2,a3,a4,a5,a6,a7,a8,a9,a10,a11,a12,a13] 1 [b1,b2,b3,b4] = #[a1,b1,b2,b3,b4,a6,a7,a8,a9,a10,a11,a12,a13]:=by kernel_rfl
theorem put13a (a1 a2 a3 a4 a5 a6 a7 a8 a9 a10 a11 a12 a13 b1 b2 b3 b4:Value):yba #[a1,a2,a3,a4,a5,a6,a7,a8,a9,a10,a11,a12,a13] 5 [b1,b2,b3,b4] = #[a1,a2,a3,a4,a5,b1,b2,b3,b4,a10,a11,a12,a13]:=by kernel_rfl
theorem put13b (a1 a2 a3 a4 a5 a6 a7 a8 a9 a10 a11 a12 a13 b1 b2 b3 b4:Value):yba #[a1,a2,a3,a4,a5,a6,a7,a8,a9,a10,a11,a12,a13] 9 [b1,b2,b3,b4] = #[a1,a2,a3,a4,a5,a6,a7,a8,a9,b1,b2,b3,b4]:=by kernel_rfl
theorem StV.eC (a:Option Addr) (c:Nat) (d:List (Iv K)) (g x y:Rat):StV.C ⟨a,c,⟨d,g,x,y⟩⟩ = #[.slice a d.length c,.bool (sgB g.num),.string (mgS g.num),.bool false,.string (dnS g.den),.bool (sgB x.num),.string (mgS x.num),.bool false,.string (dnS x.den),.bool (sgB y.num),.string (mgS y.num),.bool false,.string (dnS y.den)]:=rfl
theorem st_built' (a:Option Addr) (n c:Nat):prog.built 65 [(0,.slice a n c)]=some #[.slice a n c,.bool false,.string ⟨#[]⟩,.bool false,.string ⟨#[]⟩,.bool false,.string ⟨#[]⟩,.bool false,.string ⟨#[]⟩,.bool false,.string ⟨#[]⟩,.bool false,.string ⟨#[]⟩]:=by kernel_rfl
theorem st_built (a:Option Addr) (c:Nat) (d:List (Iv K)):prog.built 65 [(0,.slice a d.length c)]=some (StV.C ⟨a,c,⟨d,0,0,0⟩⟩):=by
 rw [st_built',StV.eC];have h1:sgB (0:Rat).num=false:=by decide
 have h2:mgS (0:Rat).num=⟨#[]⟩:=yaR.2 rfl;have h3:dnS (0:Rat).den=⟨#[]⟩:=by unfold dnS;rfl
 rw [h1,h2,h3]
theorem put_g (a:Option Addr) (c:Nat) (d:List (Iv K)) (g x y z:Rat):yba (StV.C ⟨a,c,⟨d,g,x,y⟩⟩) 1 (rC z).toList=StV.C ⟨a,c,⟨d,z,x,y⟩⟩:=by
 rw [StV.eC,StV.eC];exact put13g _ _ _ _ _ _ _ _ _ _ _ _ _ _ _ _ _
theorem put_a (a:Option Addr) (c:Nat) (d:List (Iv K)) (g x y z:Rat):yba (StV.C ⟨a,c,⟨d,g,x,y⟩⟩) 5 (rC z).toList=StV.C ⟨a,c,⟨d,g,z,y⟩⟩:=by
 rw [StV.eC,StV.eC];exact put13a _ _ _ _ _ _ _ _ _ _ _ _ _ _ _ _ _
theorem put_b (a:Option Addr) (c:Nat) (d:List (Iv K)) (g x y z:Rat):yba (StV.C ⟨a,c,⟨d,g,x,y⟩⟩) 9 (rC z).toList=StV.C ⟨a,c,⟨d,g,x,z⟩⟩:=by
 rw [StV.eC,StV.eC];exact put13b _ _ _ _ _ _ _ _ _ _ _ _ _ _ _ _ _
theorem fill_s1 (a:Option Addr) (n c:Nat) (n1 n2 n3:Bool) (s1 d1 s2 d2 s3 d3:ByteArray):Instr.fill (fun i=>some (i*13,13)) ((Array.range (1*13)).map ((#[.slice none 0 0,.bool false,.string ⟨#[]⟩,.bool false,.string ⟨#[]⟩,.bool false,.string ⟨#[]⟩,.bool false,.string ⟨#[]⟩,.bool false,.string ⟨#[]⟩,.bool false,.string ⟨#[]⟩]:Array Value)[· % (#[.slice none 0 0,.bool false,.string ⟨#[]⟩,.bool false,.string ⟨#[]⟩,.bool false,.string ⟨#[]⟩,.bool false,.string ⟨#[]⟩,.bool false,.string ⟨#[]⟩,.bool false,.string ⟨#[]⟩]:Array Value).size]!))
  #[(0, Value.agg #[.slice a n c, .bool n1, .string s1, .bool false, .string d1, .bool n2, .string s2, .bool false, .string d2, .bool n3, .string s3, .bool false, .string d3])].toList = some #[.slice a n c, .bool n1, .string s1, .bool false, .string d1, .bool n2, .string s2, .bool false, .string d2, .bool n3, .string s3, .bool false, .string d3] := by kernel_rfl
theorem ygR (x:StV) (w:World):(Instr.buildSlice 62 1 #[(0,.agg x.C)]).run prog w = .ok (.slice (some ⟨w.heap.size,0,none⟩) 1 1) (w.alloc (.cells x.C 65)):=by
 obtain⟨i,z,hi,hz,hs,hb,hzc⟩:=st_info;refine run_buildSlice (P:=prog) w 62 65 1 _ _ i z underlying62 hi hz (by rw [hs];decide) (by rw [hs];decide) ?_;rw [hs,hzc];exact fill_s1 _ _ _ _ _ _ _ _ _ _ _ _
theorem OBS.app {w0 w:World} {v:Value} {l:List StV} (t:StV) (h:OB StV.cells 65 13 w0 w v l) (h9:l.length≤1000000) :
  ∃ u,w.alloc (.cells t.C 65)=u∧∃ v4 u4,(Builtin.append_ #[62,62] 62 #[v,.slice (some ⟨w.heap.size,0,none⟩) 1 1]).run prog u = .ok v4 u4∧OB StV.cells 65 13 w0 u4 v4 (l++[t])∧∃ F,(∀ g,v.ownBlock=some g→g∈F)∧(∀ g∈F,v.ownBlock=some g)∧Keep F w u4:=by
 have hk:=Keep.alloc [] w (.cells t.C 65);have hx:RowE StV.cells (w.alloc (.cells t.C 65)) (.slice (some ⟨w.heap.size,0,none⟩) 1 1) [t]:=.inr ⟨w.heap.size,0,1,rfl,Nat.le_refl _,by simp,fun i v hv=>ybl (World.alloc_heap_new w (.cells t.C 65)) i v (by simpa using hv)⟩;obtain⟨b,hbs,hoe,hback⟩:=(h.later hk.bz).oe;obtain⟨i,z,hi,hz,hs,hbt,hzc⟩:=st_info;obtain⟨v4,u4,hr4,ho4,hn4,hk4⟩:=OE.app (P:=prog) (bytes:=168) (ty:=62) underlying62 hi hz hs hbt (by rw [hzc];rfl) (by decide) StV.len StV.one hoe (.inr (by simp)) hx (by unfold maxLen;simp;omega) (by simp;omega);refine ⟨_,rfl,v4,u4,hr4,hback _ _ _ ho4,v.ownBlock.toList,fun g hg=>by rw [hg];simp,fun g hg=>by simpa using hg,?_⟩;have:=hk4 v.ownBlock.toList (fun g hg=>by rw [hg];simp);refine ⟨this.os.trans hk.os,this.tape.trans hk.tape,this.output.trans hk.output,Nat.le_trans hk.size this.size,Nat.le_trans hk.drawn this.drawn,fun j hj hn=>?_⟩;exact (this.block j (Nat.lt_of_lt_of_le hj hk.size) hn).trans (hk.block j hj (by simp))
end
end Go.Proofs.YtpgffjjpiafhpaaGreatDoor
