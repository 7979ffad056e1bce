/- Parts of a proof: Sk Sl. -/
import Derived.Test.YtpgffjjpiafhpaaGreatDoorJ02
import Derived.Test.YtpgffjjpiafhpaaGreatDoorJ18
set_option linter.unusedVariables false
set_option linter.unusedSimpArgs false
set_option maxRecDepth 100000
set_option maxHeartbeats 8000000
namespace Go.Proofs.YtpgffjjpiafhpaaGreatDoor
open Go.RowKit Tryz
section
variable {P:Program} {ops:Array Oper} {md:Region.Mode} {S:World→Prop} {Q:Exit→Act→World→Prop}
theorem yfy {n f:Nat} {L:Array Bool→Act→World→Prop} {listed:Array Bool} {a:Act} {w:World} (i:Nat) {o:Oper} (ho:ops[i]? = some o) (hi:i<n) (hf:Region.free md ops listed i=true) (hr:(Region.ready md ops listed).contains i=true)
  (hg:Region.wanted o (yielded ops a.tmps)=false) (hS:S w)
  (h2:∀ K:Act→Prop,(∀ a,yav P md ops Q S n L f (listed.setIfInBounds i true) a w→K a)→K (a.put o.dst undef)):yav P md ops Q S n L (f+1) listed a w :=
 .inl ⟨i,o,undef,ho,hi,hf,hr,.inr ⟨hg,rfl⟩,hS,h2 _ (fun _ h=>h)⟩
theorem jS {n f:Nat} {L:Array Bool→Act→World→Prop} {listed:Array Bool} {a:Act} {w:World} (i:Nat) {o:Oper} (hS:S w) (h2:∀ K:Act→Prop,(∀ a,yav P md ops Q S n L f (listed.setIfInBounds i true) a w→K a)→K (a.put o.dst undef)) (ho:ops[i]? = some o:=by rfl) (hi:i<n:=by decide) (hf:Region.free md ops listed i=true:=by kernel_rfl) (hr:(Region.ready md ops listed).contains i=true:=by kernel_rfl) (hg:Region.wanted o (yielded ops a.tmps)=false:=by rfl):yav P md ops Q S n L (f+1) listed a w :=
 yfy i ho hi hf hr hg hS h2
end
theorem rv_zero:rv 0 = .agg #[.bool false,.string ⟨#[]⟩,.bool false,.string ⟨#[]⟩]:=by
 show Value.agg #[.bool (sgB 0),.string (mgS 0),.bool false,.string (dnS 1)]=_
 rw [ybn.2 rfl,ycM rfl];rfl
theorem yeC (q:Rat):(q*q).num=q.num*q.num∧(q*q).den=q.den*q.den:=by
 have h:(q.num*q.num).natAbs.gcd (q.den*q.den)=1:=by
  rw [Int.natAbs_mul];have:=q.reduced;exact Nat.Coprime.mul_left (Nat.Coprime.mul_right this this) (Nat.Coprime.mul_right this this)
 rw [Rat.num_mul,Rat.den_mul,h];simp
theorem yeH {A R s:Nat} (h1:R*R≤A) (h2:A<(R+1)*(R+1)) (h:A=s*s):R=s:=by
 subst h;have a:R≤s:=Nat.mul_self_le_mul_self_iff.1 h1;have b:s<R+1:=Nat.mul_self_lt_mul_self_iff.1 h2;omega
theorem MSt.fill {W u:World} {l:List (Value × Nat)} {g:Nat} (h:MSt W u l [(g,.cells #[.bool false,.slice none 0 0,.slice none 0 0] 160)]) (b:Bool) (x1:Option Addr) (n1 c1:Nat) (x2:Option Addr) (n2 c2:Nat) :
  ∃ W3,((u.setCell ⟨g,0,none⟩ (.bool b)).setCell ⟨g,1,none⟩ (.slice x1 n1 c1)).setCell ⟨g,2,none⟩ (.slice x2 n2 c2)=W3∧MSt W W3 l [(g,.cells #[.bool b,.slice x1 n1 c1,.slice x2 n2 c2] 160)]:=by
 have hb:=h.2.2.1 (g,.cells #[.bool false,.slice none 0 0,.slice none 0 0] 160) (by simp);obtain⟨W3,e,b3,k3⟩:=st3 (x:=.bool b) (y:=.slice x1 n1 c1) (z:=.slice x2 n2 c2) hb.1;refine ⟨W3,e.symm,h.1.trans k3 (by simp;exact hb.2),fun p hp=>(h.2.1 p hp).aside hb.1 yhu k3,?_,by simp⟩;intro p hp;simp only [List.mem_cons,List.not_mem_nil,or_false] at hp;subst hp;exact ⟨b3,hb.2⟩
def QRoot (a:Rat) (q:Rat) (ok:Bool):Prop:=(ok=true→0≤q∧q*q=a)∧(ok=false→q=0∧∀ r:Rat,r*r≠a)
theorem qroot_neg {a:Rat} (h:sgB a.num=true):QRoot a 0 false:=by
 refine ⟨fun h=>(by cases h),fun _=>⟨rfl,fun r e=>?_⟩⟩;have:=(yeC r).1;rw [e] at this;unfold sgB at h;rw [decide_eq_true_iff] at h
 have h2:0≤r.num*r.num:=by
  rcases Int.le_total 0 r.num with k|k
  ·exact Int.mul_nonneg k k
  exact Int.mul_nonneg_of_nonpos_of_nonpos k k
 omega
theorem qroot_num {a:Rat} {R:Nat} (h1:R*R≤a.num.natAbs) (h2:a.num.natAbs<(R+1)*(R+1)) (h:R*R≠a.num.natAbs):QRoot a 0 false:=by
 refine ⟨fun h=>(by cases h),fun _=>⟨rfl,fun r e=>h ?_⟩⟩;have k:=(yeC r).1;rw [e] at k;have k2:a.num.natAbs=r.num.natAbs*r.num.natAbs:=by rw [k,Int.natAbs_mul]
 rw [yeH h1 h2 k2,k2]
theorem qroot_den {a:Rat} {R:Nat} (h1:R*R≤a.den) (h2:a.den<(R+1)*(R+1)) (h:R*R≠a.den):QRoot a 0 false:=by
 refine ⟨fun h=>(by cases h),fun _=>⟨rfl,fun r e=>h ?_⟩⟩;have k:=(yeC r).2;rw [e] at k;rw [yeH h1 h2 k,k]
theorem qroot_yes {a:Rat} {n d:Nat} (hs:sgB a.num=false) (hn:n*n=a.num.natAbs) (hd:d*d=a.den):QRoot a (Rat.divInt (mk false n) (d:Int)) true:=by
 refine ⟨fun _=>?_,fun h=>(by cases h)⟩
 have hd0:0<d:=by
  rcases Nat.eq_zero_or_pos d with h|h
  ·subst h;have:=a.den_pos;omega
  exact h
 have e:mk false n=(n:Int):=rfl;rw [e];constructor
 ·rw [Rat.divInt_nonneg_iff_of_pos_right (by omega)]
  omega
 rw [Rat.divInt_mul_divInt]
 have h1:(n:Int)*(n:Int)=a.num:=by
  unfold sgB at hs;rw [decide_eq_false_iff_not] at hs;have:((n*n:Nat):Int)=(n:Int)*n:=by simp
  omega
 have h2:(d:Int)*(d:Int)=(a.den:Int):=by rw [← hd];simp
 rw [h1,h2,Rat.num_divInt_den]
def Root2Post (w0:World) (a:Rat) (e:Ending) (w':World):Prop:=∃ q ok,e = .returned (.tuple #[rv q,.bool ok])∧QRoot a q ok∧Keep [] w0 w'
theorem yhm (a:Rat) (ha:FitQ 10000000 a) (w:World):Calls prog 87 #[rv a] w (Root2Post w a):=by
 have HA:Hid (∀ w',Calls prog 138 #[rv a] w' (FracPost w' a)):=fun w'=>of_c w' a (by have:=(ycu ha).1;omega) (by have:=(ycu ha).2;omega);have HL:=jX (yeJ ha);have Hno:=jX (qroot_neg (a:=a));have Hn1:Hid (∀ R,_→_→_→_):=fun R=>qroot_num (a:=a) (R:=R);have Hn2:Hid (∀ R,_→_→_→_):=fun R=>qroot_den (a:=a) (R:=R);have Hy:Hid (∀ n d,_→_→_→_):=fun n d=>qroot_yes (a:=a) (n:=n) (d:=d);have h00:=rv_zero;have HQ:Hid (∀ q ok w',QRoot a q ok→Keep [] w w'→Root2Post w a (.returned (.tuple #[rv q,.bool ok])) w'):=fun q ok w' h1 h2=>⟨q,ok,rfl,h1,h2⟩;have HQ0:=jX (HQ.out 0 false);rw [h00] at HQ0;clear h00;have hdp:0<a.den:=a.den_pos;generalize hP:Root2Post w a=P at *;unfold FracPost at HA;unfold rv at HA;unfold rv;generalize sgB a.num=na at *;generalize mgS a.num=sa at *;generalize dnS a.den=da at *;generalize a.num.natAbs=Aa at *;generalize a.den=Da at *;go_enter func87,ntmps87
 go_wp2_with fail;obtain⟨W,ga,gb,hW,ega,egb,Bga,Bgb,hga,hgb,hgW,HkW⟩:=al2h w (.cells #[.bool na,.string sa,.bool false,.string da] 28) (.cells #[.bool false,.string ⟨#[]⟩,.bool false,.string ⟨#[]⟩] 28);rw [← hW];try rw [egb]
 try rw [ega]
 clear hW ega egb;obtain⟨pga,fga,lga⟩:=jQ Bga;go_wp2_with fail;refine (HA.out _).mono ?_;rintro e u1 ⟨z1,z2,rfl,hd1,hd2,hk1⟩;obtain⟨xo,xc,rfl,_⟩:=hd1.form;obtain⟨yo,yc,rfl,_⟩:=hd2.form;have HM:=jX ((MSt.start (Keep.refl [] W)).call hk1 hd1 hd2);clear hd1 hd2 hk1 HA pga fga lga;obtain⟨u2,g,e1,e2,hm⟩:=HM.out.new' (.cells #[.bool false,.slice none 0 0,.slice none 0 0] 160);have Bg:=jX (hm.blk g (.cells #[.bool false,.slice none 0 0,.slice none 0 0] 160) (by simp));obtain⟨pg,fg,lg⟩:=jQ Bg;dsimp only;go_wp2_with fail;obtain⟨u3,e3,hm3⟩:=hm.fill na xo (Ln Aa) xc yo (Ln Da) yc;rw [e3];have HM:=jX hm3;clear hm hm3 e1 e2 e3 pg fg lg Bg;have Bea:=jX (HM.out.blk g (.cells #[.bool na,.slice xo (Ln Aa) xc,.slice yo (Ln Da) yc] 160) (by simp));have HSa:=jX (Keep.drew [] u3);go_wp2_with fail;refine yah (S:=fun u=>Keep [] u3 u) 6 (by kernel_rfl) (by kernel_rfl) (fun _ _ d _ _ h=>by cases d<;>exact h) ?_;have hS0:=HSa.out;have HM:=jX (HM.out.move hS0);generalize World.drew u3=u at *;clear HSa;refine sG (h1:=fun w hw=>by (have pea:=yab (hw.heap Bea.out (by simp));go_simp;try rfl)) 0 hS0 ?_;go_simp;refine sG (h1:=fun w hw=>by (have pea:=yab (hw.heap Bea.out (by simp));go_simp;try rfl)) 1 hS0 ?_;go_simp;refine sG (h1:=fun w hw=>by (have pea:=yab (hw.heap Bea.out (by simp));go_simp;try rfl)) 3 hS0 ?_;go_simp;refine sG (h1:=fun w hw=>by (have pea:=yab (hw.heap Bea.out (by simp));go_simp;try rfl)) 4 hS0 ?_;go_simp;refine jP 2 (fun K hK=>?_);refine yag 139 #[.slice xo (Ln Aa) xc] (by go_simp) ?_;refine (root_c _ _ _ (HM.out.dr (.slice xo (Ln Aa) xc) Aa (by simp)) HL.out.1).mono ?_;rintro e u1 ⟨qv,R,rfl,hq1R,hq2R,hd1,hk1⟩;obtain⟨qo,qc,rfl,_⟩:=hd1.form;have hS0:=hS0.tz hk1;have HM:=jX (HM.out.call1 hk1 hd1);refine ⟨_,rfl,?_⟩;refine hK _ _ hS0 ?_;clear hK K hk1 hd1;refine jP 5 (fun K hK=>?_);refine yag 139 #[.slice yo (Ln Da) yc] (by go_simp) ?_;refine (root_c _ _ _ (HM.out.dr (.slice yo (Ln Da) yc) Da (by simp)) HL.out.2).mono ?_;rintro e u1 ⟨sv,T,rfl,hq1T,hq2T,hd1,hk1⟩;obtain⟨so,sc,rfl,_⟩:=hd1.form;have hS0:=hS0.tz hk1;have HM:=jX (HM.out.call1 hk1 hd1);refine ⟨_,rfl,?_⟩;refine hK _ _ hS0 ?_;clear hK K hk1 hd1;refine ⟨by kernel_rfl,?_⟩;simp only [List.drop_succ_cons,List.drop_zero];have HS:=jX hS0;have hR:Ln R≤10000000:=by have:=Ln_mono (show R≤Aa by have:=Nat.le_mul_self R;omega);have:=HL.out.1;omega
 have hT:Ln T≤10000000:=by have:=Ln_mono (show T≤Da by have:=Nat.le_mul_self T;omega);have:=HL.out.2;omega
 have HLR:Hid (Ln R≤1000000000∧Ln T≤1000000000∧Ln (R*R)≤1000000000∧Ln (T*T)≤1000000000∧Ln Aa≤1000000000∧Ln Da≤1000000000):=⟨by omega,by omega,by have:=Ln_mul R R;omega,by have:=Ln_mul T T;omega,by have:=HL.out.1;omega,by have:=HL.out.2;omega⟩;have HLT:=jX (And.intro hR hT);have HQ1:=jX (And.intro hq1R hq2R);have HQ2:=jX (And.intro hq1T hq2T);clear hS0 hR hT hq1R hq2R hq1T hq2T;go_wp2_with fail;cases na with
 | true =>
  have QR:=Hno.out rfl;refine yah (S:=fun u=>Keep [] u3 u) 19 (by kernel_rfl) (by kernel_rfl) (fun _ _ d _ _ h=>by cases d<;>exact h) ?_;have hS0:=HS.out.tz (Keep.drew [] _);have HM:=jX (HM.out.move (Keep.drew [] _));generalize World.drew _=u at *;refine sG (h1:=fun w hw=>by (have pea:=yab (hw.heap Bea.out (by simp));go_simp;try rfl)) 0 hS0 ?_;go_simp;refine sG (h1:=fun w hw=>by (have pea:=yab (hw.heap Bea.out (by simp));go_simp;try rfl)) 1 hS0 ?_;go_simp;refine sG (h1:=fun w hw=>by (have pea:=yab (hw.heap Bea.out (by simp));go_simp;try rfl)) 2 hS0 ?_;go_simp;refine' jS 3 hS0 (fun K hK=>?ka3);go_simp;go_step
  refine' jS 4 hS0 (fun K hK=>?ka4);go_simp;go_step
  refine' jS 5 hS0 (fun K hK=>?ka5);go_simp;go_step
  refine' jS 6 hS0 (fun K hK=>?ka6);go_simp;go_step
  refine' jS 7 hS0 (fun K hK=>?ka7);go_simp;go_step
  refine' jS 8 hS0 (fun K hK=>?ka8);go_simp;go_step
  refine' jS 9 hS0 (fun K hK=>?ka9);go_simp;go_step
  refine sG (h1:=fun w hw=>by (have pea:=yab (hw.heap Bea.out (by simp));go_simp;try rfl)) 10 hS0 ?_;go_simp;refine sG (h1:=fun w hw=>by (have pea:=yab (hw.heap Bea.out (by simp));go_simp;try rfl)) 11 hS0 ?_;go_simp;refine' jS 12 hS0 (fun K hK=>?ka12);go_simp;go_step
  refine' jS 13 hS0 (fun K hK=>?ka13);go_simp;go_step
  refine' jS 14 hS0 (fun K hK=>?ka14);go_simp;go_step
  refine' jS 15 hS0 (fun K hK=>?ka15);go_simp;go_step
  refine' jS 16 hS0 (fun K hK=>?ka16);go_simp;go_step
  refine' jS 17 hS0 (fun K hK=>?ka17);go_simp;go_step
  refine' jS 18 hS0 (fun K hK=>?ka18);go_simp;go_step
  refine ⟨by kernel_rfl,?_⟩;simp only [List.drop_succ_cons,List.drop_zero];have HS:=jX hS0;clear hS0;have Bgb:=jX (HM.out.1.heap Bgb.out (by simp));have HkW:=jX (HkW.out.tz HM.out.1);obtain⟨pgb,fgb,lgb⟩:=jQ Bgb;go_wp2_with fail;refine bodyPost_ret (v:=.tuple #[.agg #[.bool false,.string ⟨#[]⟩,.bool false,.string ⟨#[]⟩],.bool false]) ?_ rfl (HQ0.out _ QR (by repeat (first|(with_reducible exact HkW.out)|(refine Keep.sP ?_ _ _ _ (by omega))|(refine Keep.aP ?_ _)|(refine Keep.dP ?_))));rw [results_cell_tmp rfl];go_simp
 | false =>
  by_cases h1:R*R=Aa
  ·by_cases h2:T*T=Da
   ·have QR:=Hy.out R T rfl h1 h2
    have HT0 := Lib.hid (show 0 < T by rcases Nat.eq_zero_or_pos T with h | h
                                       ·subst h;omega
                                       exact h)
    have hcm:(Lib.compareInt ((R*R:Nat):Int) (Aa:Int) != 0)=false:=by rw [bne_eq_false_iff_eq];unfold Lib.compareInt;split<;>(try split)<;>omega
    have hcm2:(Lib.compareInt ((T*T:Nat):Int) (Da:Int) != 0)=false:=by rw [bne_eq_false_iff_eq];unfold Lib.compareInt;split<;>(try split)<;>omega
    clear h1 h2;refine yah (S:=fun u=>Keep [] u3 u) 19 (by kernel_rfl) (by kernel_rfl) (fun _ _ d _ _ h=>by cases d<;>exact h) ?_;have hS0:=HS.out.tz (Keep.drew [] _);have HM:=jX (HM.out.move (Keep.drew [] _));generalize World.drew _=u at *;refine sG (h1:=fun w hw=>by (have pea:=yab (hw.heap Bea.out (by simp));go_simp;try rfl)) 0 hS0 ?_;go_simp;refine sG (h1:=fun w hw=>by (have pea:=yab (hw.heap Bea.out (by simp));go_simp;try rfl)) 1 hS0 ?_;go_simp;refine sG (h1:=fun w hw=>by (have pea:=yab (hw.heap Bea.out (by simp));go_simp;try rfl)) 2 hS0 ?_;go_simp;refine sG (h1:=fun w hw=>by (have pea:=yab (hw.heap Bea.out (by simp));go_simp;try rfl)) 3 hS0 ?_;go_simp;refine sG (h1:=fun w hw=>by (have pea:=yab (hw.heap Bea.out (by simp));go_simp;try rfl)) 4 hS0 ?_;go_simp;refine sG (h1:=fun w hw=>by (have pea:=yab (hw.heap Bea.out (by simp));go_simp;try rfl)) 6 hS0 ?_;go_simp;refine sG (h1:=fun w hw=>by (have pea:=yab (hw.heap Bea.out (by simp));go_simp;try rfl)) 7 hS0 ?_;go_simp;refine jP 5 (fun K hK=>?_);refine yag 141 #[.slice qo (Ln R) qc,.slice qo (Ln R) qc] (by go_simp) ?_;refine (yca _ _ _ _ _ (HM.out.dr (.slice qo (Ln R) qc) R (by simp)) (HM.out.dr (.slice qo (Ln R) qc) R (by simp)) HLR.out.1 HLR.out.1).mono ?_;rintro e u1 ⟨tv,rfl,hd1,hk1⟩;obtain⟨tb,tc,rfl,_⟩:=hd1.form;have hS0:=hS0.tz hk1;have HM:=jX (HM.out.call1 hk1 hd1);refine ⟨_,rfl,?_⟩;refine hK _ _ hS0 ?_;clear hK K hk1 hd1;have HCM:=yaQ _ _ _ _ _ (HM.out.dr (.slice tb (Ln (R*R)) tc) (R*R) (by simp)) (HM.out.dr (.slice xo (Ln Aa) xc) Aa (by simp)) HLR.out.2.2.1 HLR.out.2.2.2.2.1;generalize Lib.compareInt ((R*R:Nat):Int) (Aa:Int)=cm at *;refine jP 8 (fun K hK=>?_);refine yag 140 #[.slice tb (Ln (R*R)) tc,.slice xo (Ln Aa) xc] (by go_simp) ?_;refine (HCM).mono ?_;rintro e u1 ⟨rfl,hk1⟩;have hS0:=hS0.tz hk1;have HM:=jX (HM.out.move hk1);refine ⟨_,rfl,?_⟩;refine hK _ _ hS0 ?_;clear hK K hk1;refine sG (h1:=fun w hw=>by (have pea:=yab (hw.heap Bea.out (by simp));go_simp;try rfl)) 9 hS0 ?_;go_simp;refine sG (h1:=fun w hw=>by (have pea:=yab (hw.heap Bea.out (by simp));go_simp;try rfl)) 10 hS0 ?_;go_simp;refine sG (h1:=fun w hw=>by (have pea:=yab (hw.heap Bea.out (by simp));go_simp;try rfl)) 11 hS0 ?_;go_simp;refine sG (h1:=fun w hw=>by (have pea:=yab (hw.heap Bea.out (by simp));go_simp;try rfl)) 12 hS0 ?_;go_simp;refine sG (h1:=fun w hw=>by (have pea:=yab (hw.heap Bea.out (by simp));go_simp;try rfl)) 13 hS0 ?_;go_simp;refine sG (h1:=fun w hw=>by (have pea:=yab (hw.heap Bea.out (by simp));go_simp;try rfl)) 15 hS0 ?_;go_simp;refine sG (h1:=fun w hw=>by (have pea:=yab (hw.heap Bea.out (by simp));go_simp;try rfl)) 16 hS0 ?_;go_simp;refine jP 14 (fun K hK=>?_);refine yag 141 #[.slice so (Ln T) sc,.slice so (Ln T) sc] (by go_simp) ?_;refine (yca _ _ _ _ _ (HM.out.dr (.slice so (Ln T) sc) T (by simp)) (HM.out.dr (.slice so (Ln T) sc) T (by simp)) HLR.out.2.1 HLR.out.2.1).mono ?_;rintro e u1 ⟨tv2,rfl,hd1,hk1⟩;obtain⟨vb,vc,rfl,_⟩:=hd1.form;have hS0:=hS0.tz hk1;have HM:=jX (HM.out.call1 hk1 hd1);refine ⟨_,rfl,?_⟩;refine hK _ _ hS0 ?_;clear hK K hk1 hd1;have HCM2:=yaQ _ _ _ _ _ (HM.out.dr (.slice vb (Ln (T*T)) vc) (T*T) (by simp)) (HM.out.dr (.slice yo (Ln Da) yc) Da (by simp)) HLR.out.2.2.2.1 HLR.out.2.2.2.2.2;generalize Lib.compareInt ((T*T:Nat):Int) (Da:Int)=cm2 at *;refine jP 17 (fun K hK=>?_);refine yag 140 #[.slice vb (Ln (T*T)) vc,.slice yo (Ln Da) yc] (by go_simp) ?_;refine (HCM2).mono ?_;rintro e u1 ⟨rfl,hk1⟩;have hS0:=hS0.tz hk1;have HM:=jX (HM.out.move hk1);refine ⟨_,rfl,?_⟩;refine hK _ _ hS0 ?_;clear hK K hk1;refine sG (h1:=fun w hw=>by (have pea:=yab (hw.heap Bea.out (by simp));go_simp;try rfl)) 18 hS0 ?_;go_simp;refine ⟨by kernel_rfl,?_⟩;simp only [List.drop_succ_cons,List.drop_zero];have HS:=jX hS0;clear hS0;go_wp2_with fail;refine (ycm _ _ _ false R T (HM.out.dr (.slice qo (Ln R) qc) R (by simp)) (HM.out.dr (.slice so (Ln T) sc) T (by simp)) (by have:=HLT.out.1;omega) (by have:=HLT.out.2;omega) (by have:=HT0.out;omega)).mono ?_;rintro e u9 ⟨rfl,hk1⟩;have HQF:=jX (fun w'=>HQ.out (Rat.divInt (mk false R) (T:Int)) true w' QR);unfold rv at *;generalize sgB (Rat.divInt (mk false R) (T:Int)).num=nr at *;generalize mgS (Rat.divInt (mk false R) (T:Int)).num=sr at *;generalize dnS (Rat.divInt (mk false R) (T:Int)).den=dr at *;dsimp only;have HM:=jX (HM.out.move hk1);clear hk1;have Bgb:=jX (HM.out.1.heap Bgb.out (by simp));have HkW:=jX (HkW.out.tz HM.out.1);obtain⟨pgb,fgb,lgb⟩:=jQ Bgb;go_wp2_with fail;refine bodyPost_ret (v:=.tuple #[.agg #[.bool nr,.string sr,.bool false,.string dr],.bool true]) ?_ rfl (HQF.out _ (by repeat (first|(with_reducible exact HkW.out)|(refine Keep.sP ?_ _ _ _ (by omega))|(refine Keep.aP ?_ _)|(refine Keep.dP ?_))));rw [results_cell_tmp rfl];go_simp
   have QR:=Hn2.out T HQ2.out.1 HQ2.out.2 h2;have hcm:(Lib.compareInt ((R*R:Nat):Int) (Aa:Int) != 0)=false:=by rw [bne_eq_false_iff_eq];unfold Lib.compareInt;split<;>(try split)<;>omega
   have hcm2:(Lib.compareInt ((T*T:Nat):Int) (Da:Int) != 0)=true:=by rw [bne_iff_ne];unfold Lib.compareInt;split<;>(try split)<;>omega
   clear h1 h2;refine yah (S:=fun u=>Keep [] u3 u) 19 (by kernel_rfl) (by kernel_rfl) (fun _ _ d _ _ h=>by cases d<;>exact h) ?_;have hS0:=HS.out.tz (Keep.drew [] _);have HM:=jX (HM.out.move (Keep.drew [] _));generalize World.drew _=u at *;refine sG (h1:=fun w hw=>by (have pea:=yab (hw.heap Bea.out (by simp));go_simp;try rfl)) 0 hS0 ?_;go_simp;refine sG (h1:=fun w hw=>by (have pea:=yab (hw.heap Bea.out (by simp));go_simp;try rfl)) 1 hS0 ?_;go_simp;refine sG (h1:=fun w hw=>by (have pea:=yab (hw.heap Bea.out (by simp));go_simp;try rfl)) 2 hS0 ?_;go_simp;refine sG (h1:=fun w hw=>by (have pea:=yab (hw.heap Bea.out (by simp));go_simp;try rfl)) 3 hS0 ?_;go_simp;refine sG (h1:=fun w hw=>by (have pea:=yab (hw.heap Bea.out (by simp));go_simp;try rfl)) 4 hS0 ?_;go_simp;refine sG (h1:=fun w hw=>by (have pea:=yab (hw.heap Bea.out (by simp));go_simp;try rfl)) 6 hS0 ?_;go_simp;refine sG (h1:=fun w hw=>by (have pea:=yab (hw.heap Bea.out (by simp));go_simp;try rfl)) 7 hS0 ?_;go_simp;refine jP 5 (fun K hK=>?_);refine yag 141 #[.slice qo (Ln R) qc,.slice qo (Ln R) qc] (by go_simp) ?_;refine (yca _ _ _ _ _ (HM.out.dr (.slice qo (Ln R) qc) R (by simp)) (HM.out.dr (.slice qo (Ln R) qc) R (by simp)) HLR.out.1 HLR.out.1).mono ?_;rintro e u1 ⟨tv,rfl,hd1,hk1⟩;obtain⟨tb,tc,rfl,_⟩:=hd1.form;have hS0:=hS0.tz hk1;have HM:=jX (HM.out.call1 hk1 hd1);refine ⟨_,rfl,?_⟩;refine hK _ _ hS0 ?_;clear hK K hk1 hd1;have HCM:=yaQ _ _ _ _ _ (HM.out.dr (.slice tb (Ln (R*R)) tc) (R*R) (by simp)) (HM.out.dr (.slice xo (Ln Aa) xc) Aa (by simp)) HLR.out.2.2.1 HLR.out.2.2.2.2.1;generalize Lib.compareInt ((R*R:Nat):Int) (Aa:Int)=cm at *;refine jP 8 (fun K hK=>?_);refine yag 140 #[.slice tb (Ln (R*R)) tc,.slice xo (Ln Aa) xc] (by go_simp) ?_;refine (HCM).mono ?_;rintro e u1 ⟨rfl,hk1⟩;have hS0:=hS0.tz hk1;have HM:=jX (HM.out.move hk1);refine ⟨_,rfl,?_⟩;refine hK _ _ hS0 ?_;clear hK K hk1;refine sG (h1:=fun w hw=>by (have pea:=yab (hw.heap Bea.out (by simp));go_simp;try rfl)) 9 hS0 ?_;go_simp;refine sG (h1:=fun w hw=>by (have pea:=yab (hw.heap Bea.out (by simp));go_simp;try rfl)) 10 hS0 ?_;go_simp;refine sG (h1:=fun w hw=>by (have pea:=yab (hw.heap Bea.out (by simp));go_simp;try rfl)) 11 hS0 ?_;go_simp;refine sG (h1:=fun w hw=>by (have pea:=yab (hw.heap Bea.out (by simp));go_simp;try rfl)) 12 hS0 ?_;go_simp;refine sG (h1:=fun w hw=>by (have pea:=yab (hw.heap Bea.out (by simp));go_simp;try rfl)) 13 hS0 ?_;go_simp;refine sG (h1:=fun w hw=>by (have pea:=yab (hw.heap Bea.out (by simp));go_simp;try rfl)) 15 hS0 ?_;go_simp;refine sG (h1:=fun w hw=>by (have pea:=yab (hw.heap Bea.out (by simp));go_simp;try rfl)) 16 hS0 ?_;go_simp;refine jP 14 (fun K hK=>?_);refine yag 141 #[.slice so (Ln T) sc,.slice so (Ln T) sc] (by go_simp) ?_;refine (yca _ _ _ _ _ (HM.out.dr (.slice so (Ln T) sc) T (by simp)) (HM.out.dr (.slice so (Ln T) sc) T (by simp)) HLR.out.2.1 HLR.out.2.1).mono ?_;rintro e u1 ⟨tv2,rfl,hd1,hk1⟩;obtain⟨vb,vc,rfl,_⟩:=hd1.form;have hS0:=hS0.tz hk1;have HM:=jX (HM.out.call1 hk1 hd1);refine ⟨_,rfl,?_⟩;refine hK _ _ hS0 ?_;clear hK K hk1 hd1;have HCM2:=yaQ _ _ _ _ _ (HM.out.dr (.slice vb (Ln (T*T)) vc) (T*T) (by simp)) (HM.out.dr (.slice yo (Ln Da) yc) Da (by simp)) HLR.out.2.2.2.1 HLR.out.2.2.2.2.2;generalize Lib.compareInt ((T*T:Nat):Int) (Da:Int)=cm2 at *;refine jP 17 (fun K hK=>?_);refine yag 140 #[.slice vb (Ln (T*T)) vc,.slice yo (Ln Da) yc] (by go_simp) ?_;refine (HCM2).mono ?_;rintro e u1 ⟨rfl,hk1⟩;have hS0:=hS0.tz hk1;have HM:=jX (HM.out.move hk1);refine ⟨_,rfl,?_⟩;refine hK _ _ hS0 ?_;clear hK K hk1;refine sG (h1:=fun w hw=>by (have pea:=yab (hw.heap Bea.out (by simp));go_simp;try rfl)) 18 hS0 ?_;go_simp;refine ⟨by kernel_rfl,?_⟩;simp only [List.drop_succ_cons,List.drop_zero];have HS:=jX hS0;clear hS0;have Bgb:=jX (HM.out.1.heap Bgb.out (by simp));have HkW:=jX (HkW.out.tz HM.out.1);obtain⟨pgb,fgb,lgb⟩:=jQ Bgb;go_wp2_with fail;refine bodyPost_ret (v:=.tuple #[.agg #[.bool false,.string ⟨#[]⟩,.bool false,.string ⟨#[]⟩],.bool false]) ?_ rfl (HQ0.out _ QR (by repeat (first|(with_reducible exact HkW.out)|(refine Keep.sP ?_ _ _ _ (by omega))|(refine Keep.aP ?_ _)|(refine Keep.dP ?_))));rw [results_cell_tmp rfl];go_simp
  have QR:=Hn1.out R HQ1.out.1 HQ1.out.2 h1;have hcm:(Lib.compareInt ((R*R:Nat):Int) (Aa:Int) != 0)=true:=by rw [bne_iff_ne];unfold Lib.compareInt;split<;>(try split)<;>omega
  clear h1;refine yah (S:=fun u=>Keep [] u3 u) 19 (by kernel_rfl) (by kernel_rfl) (fun _ _ d _ _ h=>by cases d<;>exact h) ?_;have hS0:=HS.out.tz (Keep.drew [] _);have HM:=jX (HM.out.move (Keep.drew [] _));generalize World.drew _=u at *;refine sG (h1:=fun w hw=>by (have pea:=yab (hw.heap Bea.out (by simp));go_simp;try rfl)) 0 hS0 ?_;go_simp;refine sG (h1:=fun w hw=>by (have pea:=yab (hw.heap Bea.out (by simp));go_simp;try rfl)) 1 hS0 ?_;go_simp;refine sG (h1:=fun w hw=>by (have pea:=yab (hw.heap Bea.out (by simp));go_simp;try rfl)) 2 hS0 ?_;go_simp;refine sG (h1:=fun w hw=>by (have pea:=yab (hw.heap Bea.out (by simp));go_simp;try rfl)) 3 hS0 ?_;go_simp;refine sG (h1:=fun w hw=>by (have pea:=yab (hw.heap Bea.out (by simp));go_simp;try rfl)) 4 hS0 ?_;go_simp;refine sG (h1:=fun w hw=>by (have pea:=yab (hw.heap Bea.out (by simp));go_simp;try rfl)) 6 hS0 ?_;go_simp;refine sG (h1:=fun w hw=>by (have pea:=yab (hw.heap Bea.out (by simp));go_simp;try rfl)) 7 hS0 ?_;go_simp;refine jP 5 (fun K hK=>?_);refine yag 141 #[.slice qo (Ln R) qc,.slice qo (Ln R) qc] (by go_simp) ?_;refine (yca _ _ _ _ _ (HM.out.dr (.slice qo (Ln R) qc) R (by simp)) (HM.out.dr (.slice qo (Ln R) qc) R (by simp)) HLR.out.1 HLR.out.1).mono ?_;rintro e u1 ⟨tv,rfl,hd1,hk1⟩;obtain⟨tb,tc,rfl,_⟩:=hd1.form;have hS0:=hS0.tz hk1;have HM:=jX (HM.out.call1 hk1 hd1);refine ⟨_,rfl,?_⟩;refine hK _ _ hS0 ?_;clear hK K hk1 hd1;have HCM:=yaQ _ _ _ _ _ (HM.out.dr (.slice tb (Ln (R*R)) tc) (R*R) (by simp)) (HM.out.dr (.slice xo (Ln Aa) xc) Aa (by simp)) HLR.out.2.2.1 HLR.out.2.2.2.2.1;generalize Lib.compareInt ((R*R:Nat):Int) (Aa:Int)=cm at *;refine jP 8 (fun K hK=>?_);refine yag 140 #[.slice tb (Ln (R*R)) tc,.slice xo (Ln Aa) xc] (by go_simp) ?_;refine (HCM).mono ?_;rintro e u1 ⟨rfl,hk1⟩;have hS0:=hS0.tz hk1;have HM:=jX (HM.out.move hk1);refine ⟨_,rfl,?_⟩;refine hK _ _ hS0 ?_;clear hK K hk1;refine sG (h1:=fun w hw=>by (have pea:=yab (hw.heap Bea.out (by simp));go_simp;try rfl)) 9 hS0 ?_;go_simp;refine sG (h1:=fun w hw=>by (have pea:=yab (hw.heap Bea.out (by simp));go_simp;try rfl)) 10 hS0 ?_;go_simp;refine sG (h1:=fun w hw=>by (have pea:=yab (hw.heap Bea.out (by simp));go_simp;try rfl)) 11 hS0 ?_;go_simp;refine' jS 12 hS0 (fun K hK=>?kb12);go_simp;go_step
  refine' jS 13 hS0 (fun K hK=>?kb13);go_simp;go_step
  refine' jS 14 hS0 (fun K hK=>?kb14);go_simp;go_step
  refine' jS 15 hS0 (fun K hK=>?kb15);go_simp;go_step
  refine' jS 16 hS0 (fun K hK=>?kb16);go_simp;go_step
  refine' jS 17 hS0 (fun K hK=>?kb17);go_simp;go_step
  refine' jS 18 hS0 (fun K hK=>?kb18);go_simp;go_step
  refine ⟨by kernel_rfl,?_⟩;simp only [List.drop_succ_cons,List.drop_zero];have HS:=jX hS0;clear hS0;have Bgb:=jX (HM.out.1.heap Bgb.out (by simp));have HkW:=jX (HkW.out.tz HM.out.1);obtain⟨pgb,fgb,lgb⟩:=jQ Bgb;go_wp2_with fail;refine bodyPost_ret (v:=.tuple #[.agg #[.bool false,.string ⟨#[]⟩,.bool false,.string ⟨#[]⟩],.bool false]) ?_ rfl (HQ0.out _ QR (by repeat (first|(with_reducible exact HkW.out)|(refine Keep.sP ?_ _ _ _ (by omega))|(refine Keep.aP ?_ _)|(refine Keep.dP ?_))));rw [results_cell_tmp rfl];go_simp
def isI (n:Bool) (s:ByteArray):Bool:=if h:0<s.size then (((s[0]'h).toNat:Nat):Int) != 0 else !n
theorem yie (n:Bool) (s:ByteArray) (hs:s.size≤1000000000000) (w:World) :
  Calls prog 135 #[.agg #[.bool n,.string s]] w fun e w'=>e = .returned (.bool (isI n s))∧Keep [] w w':=by
 by_cases h0:s.size=0
 ·have hi:isI n s = !n:=dif_neg (by omega)
  rw [hi];have hz:((s.size:Int) == 0)=true:=by rw [beq_iff_eq];omega
  cases n
  all_goals
   clear hi h0;go_enter func135,ntmps135
   go_wp2_with fail;obtain⟨W,ga,hW,ega,Bga,hga,hgW,HkW⟩:=al1h w (.cells #[.bool _,.string s] 26);rw [← hW];try rw [ega]
   clear hW ega;obtain⟨pga,fga,lga⟩:=jQ Bga;go_wp2_with fail;go_ret
   exact ⟨rfl,by repeat (first|(with_reducible exact HkW.out)|(refine Keep.sP ?_ _ _ _ (by omega))|(refine Keep.aP ?_ _)|(refine Keep.dP ?_))⟩
 have hlt:0<s.size:=by omega
 have hi:isI n s=((((s[0]'hlt).toNat:Nat):Int) != 0):=dif_pos hlt;rw [hi];have hz:((s.size:Int) == 0)=false:=by rw [beq_eq_false_iff_ne];omega
 clear hi h0;go_enter func135,ntmps135
 go_wp2_with fail;obtain⟨W,ga,hW,ega,Bga,hga,hgW,HkW⟩:=al1h w (.cells #[.bool n,.string s] 26);rw [← hW];try rw [ega]
 clear hW ega;obtain⟨pga,fga,lga⟩:=jQ Bga;go_wp2_with fail;go_ret
 exact ⟨rfl,by repeat (first|(with_reducible exact HkW.out)|(refine Keep.sP ?_ _ _ _ (by omega))|(refine Keep.aP ?_ _)|(refine Keep.dP ?_))⟩
theorem ydF {s:ByteArray} (h:s.size=0):s=⟨#[]⟩:=ByteArray.ext (by apply Array.eq_empty_of_size_eq_zero;exact h)
theorem isI_can {n:Bool} {s:ByteArray}:isI n s=true↔CanS s∧(s.size=0→n=false):=by
 unfold isI;split
 ·rename_i h
  obtain⟨⟨l⟩⟩:=s;cases l with
  | nil=>exact absurd h (by simp [ByteArray.size])
  | cons b l =>
   have e:(⟨⟨b :: l⟩⟩:ByteArray)[0]'h=b:=rfl;rw [e];unfold CanS CanL;simp only [List.head?_cons,Option.some.injEq,forall_eq',bne_iff_ne,ne_eq];constructor
   ·intro h2
    refine ⟨fun h3=>h2 (by rw [h3];rfl),fun h3=>absurd h3 (by simp [ByteArray.size])⟩
   rintro ⟨h2,_⟩ h3;exact h2 (UInt8.toNat_inj.1 (by simpa using h3))
 rename_i h;have h0:s.size=0:=by omega
 have e:=ydF h0;subst e;unfold CanS CanL;simp [h0]
theorem yhT {n:Bool} {s:ByteArray}:isI n s=true↔∃ z:Int,sgB z=n∧mgS z=s:=by
 rw [isI_can];constructor
 ·rintro ⟨h1,h2⟩
  refine ⟨mk n (natB s),?_,?_⟩
  ·rw [mk_sg]
   cases n
   ·rfl
   by_cases h0:natB s=0
   ·exfalso
    have:=yck s h1;rw [h0,show magS 0=⟨#[]⟩ from ybn.2 (rfl:(0:Int)=0)] at this
    have h3:=h2 (by rw [← this];rfl);cases h3
   simp [h0]
  rw [ygC,yck s h1]
 rintro ⟨z,rfl,rfl⟩;refine ⟨mg_can z,fun h=>?_⟩;have:=ybn.1 (ydF h);subst this;rfl
def chkQ (n:Bool) (s:ByteArray) (m:Bool) (t:ByteArray):Bool:=isI n s&&isI m t && !m&&(decide (t.size=0) || (decide (t≠⟨#[1]⟩)&&decide (Nat.gcd (natB s) (natB t)=1)))
theorem magS_one:magS 1=⟨#[1]⟩:=by
 have h:=yck ⟨#[1]⟩ (by unfold CanS CanL;simp);have e:natB ⟨#[1]⟩=1:=rfl;rw [e] at h;exact h
theorem yeF {n:Bool} {s:ByteArray} {m:Bool} {t:ByteArray}:chkQ n s m t=true↔∃ q:Rat,n=sgB q.num∧s=mgS q.num∧m=false∧t=dnS q.den:=by
 unfold chkQ;simp only [Bool.and_eq_true,Bool.or_eq_true,decide_eq_true_eq,Bool.not_eq_true'];constructor
 ·rintro ⟨⟨⟨h1,h2⟩,rfl⟩,h3⟩
  obtain⟨z,rfl,rfl⟩:=yhT.1 h1;have ht:=(isI_can.1 h2).1;rcases h3 with h3|⟨h3,h4⟩
  ·exact ⟨(z:Rat),rfl,rfl,rfl,by rw [ydF h3];exact (ycM rfl).symm⟩
  rw [yaK] at h4;have hd1:natB t≠1:=fun e=>h3 (by rw [← yck t ht,e,magS_one]);by_cases hd0:natB t=0
  ·have e:t=⟨#[]⟩:=by rw [← yck t ht,hd0,magS_zero]
   exact ⟨(z:Rat),rfl,rfl,rfl,by rw [e];exact (ycM rfl).symm⟩
  refine ⟨⟨z,natB t,hd0,h4⟩,rfl,rfl,rfl,?_⟩;show t=dnS (natB t)
  rw [yel hd1,yck t ht]
 rintro ⟨q,rfl,rfl,rfl,rfl⟩;refine ⟨⟨⟨yhT.2 ⟨_,rfl,rfl⟩,?_⟩,rfl⟩,?_⟩
 ·by_cases h1:q.den=1
  ·rw [h1,ycM rfl];rfl
  rw [yel h1];refine yhT.2 ⟨(q.den:Int),?_,?_⟩
  ·unfold sgB;simp
  unfold mgS;simp
 by_cases h1:q.den=1
 ·rw [h1,ycM rfl];exact .inl rfl
 rw [yel h1];refine .inr ⟨fun e=>h1 ?_,?_⟩
 ·have:=congrArg natB e
  rw [yax] at this;exact this
 rw [yaK,yax];exact q.reduced
theorem yia (n:Bool) (s:ByteArray) (m:Bool) (t:ByteArray) (hs:s.size≤100000000) (ht:t.size≤100000000) (w:World) :
  Calls prog 86 #[.agg #[.bool n,.string s,.bool m,.string t]] w fun e w'=>e = .returned (.bool (chkQ n s m t))∧Keep [] w w':=by
 have H1:=jX (yie n s (by omega));have H2:=jX (yie m t (by omega));have HL:Hid (∀ n s w',Hid (s.size≤100000000)→Calls prog 137 #[.agg #[.bool n,.string s]] w' (Digits w' (natB s))):=fun n s w' h=>yeZ n s (by have:=h.out;omega) w';have HD1:=jX (fun w'=>HL.out n s w' hs);have HD2:=jX (fun w'=>HL.out m t w' ht)
 have hl1:Ln (natB s)≤100000000:=by
  have:=ybY s;exact Nat.le_trans (Ln_le.2 this) hs
 have hl2:Ln (natB t)≤100000000:=by
  have:=ybY t;exact Nat.le_trans (Ln_le.2 this) ht
 have HLL:=jX (And.intro hl1 hl2);clear HL hs ht hl1 hl2;have HR:Hid (chkQ n s m t=(isI n s&&isI m t && !m&&(decide (t.size=0) || (decide (t≠⟨#[1]⟩)&&decide (Nat.gcd (natB s) (natB t)=1))))):=rfl;generalize chkQ n s m t=res at *;generalize isI n s=b1 at *;generalize isI m t=b2 at *;generalize natB s=A at *;generalize natB t=B at *;cases b1 with
 | false =>
  have hr:res=false:=by rw [HR.out];rfl
  subst hr;clear HR HD1 HD2 HLL H2;go_enter func86,ntmps86
  go_wp2_with fail;obtain⟨W,ga,hW,ega,Bga,hga,hgW,HkW⟩:=al1h w (.cells #[.bool n,.string s,.bool m,.string t] 28);rw [← hW];try rw [ega]
  clear hW ega;obtain⟨pga,fga,lga⟩:=jQ Bga;go_wp2_with fail;refine (H1.out _).mono ?_;rintro e w1 ⟨rfl,hk1⟩;dsimp only;clear pga fga lga H1;replace Bga:=jH hk1 Bga;replace HkW:=jX (HkW.out.tz hk1);clear hk1;obtain⟨pga,fga,lga⟩:=jQ Bga;go_wp2_with fail;go_ret
  exact ⟨rfl,by repeat (first|(with_reducible exact HkW.out)|(refine Keep.sP ?_ _ _ _ (by omega))|(refine Keep.aP ?_ _)|(refine Keep.dP ?_))⟩
 | true =>
  cases b2 with
  | false =>
   have hr:res=false:=by rw [HR.out];rfl
   subst hr;clear HR HD1 HD2 HLL;go_enter func86,ntmps86
   go_wp2_with fail;obtain⟨W,ga,hW,ega,Bga,hga,hgW,HkW⟩:=al1h w (.cells #[.bool n,.string s,.bool m,.string t] 28);rw [← hW];try rw [ega]
   clear hW ega;obtain⟨pga,fga,lga⟩:=jQ Bga;go_wp2_with fail;refine (H1.out _).mono ?_;rintro e w1 ⟨rfl,hk1⟩;dsimp only;clear pga fga lga H1;replace Bga:=jH hk1 Bga;replace HkW:=jX (HkW.out.tz hk1);clear hk1;obtain⟨pga,fga,lga⟩:=jQ Bga;go_wp2_with fail;refine (H2.out _).mono ?_;rintro e w2 ⟨rfl,hk2⟩;dsimp only;clear pga fga lga H2;replace Bga:=jH hk2 Bga;replace HkW:=jX (HkW.out.tz hk2);clear hk2;obtain⟨pga,fga,lga⟩:=jQ Bga;go_wp2_with fail;go_ret
   exact ⟨rfl,by repeat (first|(with_reducible exact HkW.out)|(refine Keep.sP ?_ _ _ _ (by omega))|(refine Keep.aP ?_ _)|(refine Keep.dP ?_))⟩
  | true =>
   cases m with
   | true =>
    have hr:res=false:=by rw [HR.out];rfl
    subst hr;clear HR HD1 HD2 HLL;go_enter func86,ntmps86
    go_wp2_with fail;obtain⟨W,ga,hW,ega,Bga,hga,hgW,HkW⟩:=al1h w (.cells #[.bool n,.string s,.bool true,.string t] 28);rw [← hW];try rw [ega]
    clear hW ega;obtain⟨pga,fga,lga⟩:=jQ Bga;go_wp2_with fail;refine (H1.out _).mono ?_;rintro e w1 ⟨rfl,hk1⟩;dsimp only;clear pga fga lga H1;replace Bga:=jH hk1 Bga;replace HkW:=jX (HkW.out.tz hk1);clear hk1;obtain⟨pga,fga,lga⟩:=jQ Bga;go_wp2_with fail;refine (H2.out _).mono ?_;rintro e w2 ⟨rfl,hk2⟩;dsimp only;clear pga fga lga H2;replace Bga:=jH hk2 Bga;replace HkW:=jX (HkW.out.tz hk2);clear hk2;obtain⟨pga,fga,lga⟩:=jQ Bga;go_wp2_with fail;go_ret
    exact ⟨rfl,by repeat (first|(with_reducible exact HkW.out)|(refine Keep.sP ?_ _ _ _ (by omega))|(refine Keep.aP ?_ _)|(refine Keep.dP ?_))⟩
   | false =>
    by_cases h0:t.size=0
    ·have hr:res=true:=by rw [HR.out];simp [h0]
     subst hr;have e:=ydF h0;subst e;clear HR HD1 HD2 HLL h0;go_enter func86,ntmps86
     go_wp2_with fail;obtain⟨W,ga,hW,ega,Bga,hga,hgW,HkW⟩:=al1h w (.cells #[.bool n,.string s,.bool false,.string ⟨#[]⟩] 28);rw [← hW];try rw [ega]
     clear hW ega;obtain⟨pga,fga,lga⟩:=jQ Bga;go_wp2_with fail;refine (H1.out _).mono ?_;rintro e w1 ⟨rfl,hk1⟩;dsimp only;clear pga fga lga H1;replace Bga:=jH hk1 Bga;replace HkW:=jX (HkW.out.tz hk1);clear hk1;obtain⟨pga,fga,lga⟩:=jQ Bga;go_wp2_with fail;refine (H2.out _).mono ?_;rintro e w2 ⟨rfl,hk2⟩;dsimp only;clear pga fga lga H2;replace Bga:=jH hk2 Bga;replace HkW:=jX (HkW.out.tz hk2);clear hk2;obtain⟨pga,fga,lga⟩:=jQ Bga;go_wp2_with fail;go_ret
     exact ⟨rfl,by repeat (first|(with_reducible exact HkW.out)|(refine Keep.sP ?_ _ _ _ (by omega))|(refine Keep.aP ?_ _)|(refine Keep.dP ?_))⟩
    have hte:t.toList.isEmpty=false:=by
     rw [List.isEmpty_eq_false_iff];intro h;have e:=yds (s:=t) (t:=⟨#[]⟩) (by rw [h,Go.Lib.toList_data]);exact h0 (by rw [e];rfl)
    have hr2:res=(decide (t≠⟨#[1]⟩)&&(Nat.gcd A B == 1)):=by
     have:=HR.out;rw [this];simp [h0];rfl
    have HR2:=jX hr2;clear hr2;clear HR h0;go_enter func86,ntmps86
    go_wp2_with fail;obtain⟨W,ga,hW,ega,Bga,hga,hgW,HkW⟩:=al1h w (.cells #[.bool n,.string s,.bool false,.string t] 28);rw [← hW];try rw [ega]
    clear hW ega;obtain⟨pga,fga,lga⟩:=jQ Bga;go_wp2_with fail;refine (H1.out _).mono ?_;rintro e w1 ⟨rfl,hk1⟩;dsimp only;clear pga fga lga H1;replace Bga:=jH hk1 Bga;replace HkW:=jX (HkW.out.tz hk1);clear hk1;obtain⟨pga,fga,lga⟩:=jQ Bga;go_wp2_with fail;refine (H2.out _).mono ?_;rintro e w2 ⟨rfl,hk2⟩;dsimp only;clear pga fga lga H2;replace Bga:=jH hk2 Bga;replace HkW:=jX (HkW.out.tz hk2);clear hk2;obtain⟨pga,fga,lga⟩:=jQ Bga;go_wp2_with fail;refine yah (S:=fun u=>Keep [] w2 u) 7 (by kernel_rfl) (by kernel_rfl) (fun _ _ d _ _ h=>by cases d<;>exact h) ?_;have hS0:=Keep.drew [] w2;have HM:=jX (MSt.start hS0);generalize World.drew w2=u at *;have Bea:=Bga;refine sG (h1:=fun w hw=>by (have pea:=yab (hw.heap Bea.out (by simp));go_simp;try rfl)) 0 hS0 ?_;go_simp;refine sG (h1:=fun w hw=>by (have pea:=yab (hw.heap Bea.out (by simp));go_simp;try rfl)) 1 hS0 ?_;go_simp;refine sG (h1:=fun w hw=>by (have pea:=yab (hw.heap Bea.out (by simp));go_simp;try rfl)) 3 hS0 ?_;go_simp;refine sG (h1:=fun w hw=>by (have pea:=yab (hw.heap Bea.out (by simp));go_simp;try rfl)) 4 hS0 ?_;go_simp;refine jP 2 (fun K hK=>?_);refine yag 137 #[.agg #[.bool n,.string s]] (by go_simp) ?_;refine (HD1.out _).mono ?_;rintro e u1 ⟨r,rfl,hd1,hk1⟩;obtain⟨rb,rc,rfl,_⟩:=hd1.form;have hS0:=hS0.tz hk1;have HM:=jX (HM.out.call1 hk1 hd1);refine ⟨_,rfl,?_⟩;refine hK _ _ hS0 ?_;clear hK K hk1 hd1;refine jP 5 (fun K hK=>?_);refine yag 137 #[.agg #[.bool false,.string t]] (by go_simp) ?_;refine (HD2.out _).mono ?_;rintro e u1 ⟨r2,rfl,hd1,hk1⟩;obtain⟨tb,tc,rfl,_⟩:=hd1.form;have hS0:=hS0.tz hk1;have HM:=jX (HM.out.call1 hk1 hd1);refine ⟨_,rfl,?_⟩;refine hK _ _ hS0 ?_;clear hK K hk1 hd1;refine jP 6 (fun K hK=>?_);refine yag 136 #[.slice rb (Ln A) rc,.slice tb (Ln B) tc] (by go_simp) ?_;refine (yii _ _ _ _ _ (HM.out.dr (.slice rb (Ln A) rc) A (by simp)) (HM.out.dr (.slice tb (Ln B) tc) B (by simp)) HLL.out.1 HLL.out.2).mono ?_;rintro e u1 ⟨gv,rfl,hd1,hk1⟩;obtain⟨gb,gc,rfl,_⟩:=hd1.form;have hS0:=hS0.tz hk1;have HM:=jX (HM.out.call1 hk1 hd1);refine ⟨_,rfl,?_⟩;refine hK _ _ hS0 ?_;clear hK K hk1 hd1;refine ⟨by kernel_rfl,?_⟩;simp only [List.drop_succ_cons,List.drop_zero];have HkW:=jX (HkW.out.tz HM.out.1);have Bga:=jX (HM.out.1.heap Bga.out (by simp));have hdr:=HM.out.dr (.slice gb (Ln (Nat.gcd A B)) gc) (Nat.gcd A B) (by simp);generalize Nat.gcd A B=G at *;clear HM hS0 HD1 HD2 HLL Bea pga fga lga;obtain⟨pga,fga,lga⟩:=jQ Bga;by_cases ht1:t=⟨#[1]⟩
    ·have hr:res=false:=by rw [HR2.out,ht1];rfl
     subst hr ht1;clear HR2;go_wp2_with fail;go_ret
     exact ⟨rfl,by repeat (first|(with_reducible exact HkW.out)|(refine Keep.sP ?_ _ _ _ (by omega))|(refine Keep.aP ?_ _)|(refine Keep.dP ?_))⟩
    have hr:res=(G == 1):=by rw [HR2.out];simp [ht1]
    have hns:=yeX ht1;rw [Go.Lib.toList_data ⟨#[1]⟩] at hns;clear HR2 ht1;by_cases hl:Ln G=1
    ·have hG : 0 < G := by
      rcases Nat.eq_zero_or_pos G with h|h
      ·subst h;rw [Ln_zero] at hl;omega
      exact h
     have hG2:G<256:=by have:=Ln_lt G;rw [hl] at this;omega
     have e:digs 256 G=[G]:=by rw [ybz (by decide) hG,Nat.div_eq_of_lt hG2,yaS,Nat.mod_eq_of_lt hG2]
     have h1:=hdr.1;rw [e] at h1;obtain⟨b,o,c,hsl,hc⟩:=h1.elem (by simp [ints]);have hc0:=hc 0 _ rfl;injection hsl with e1 e2 e3;subst e1;rw [hl] at *
     have hgd:(G == 1)=((G:Int) == 1):=by
      by_cases h:G=1
      ·subst h;rfl
      have h2:((G:Int) == 1)=false:=by rw [beq_eq_false_iff_ne];omega
      rw [h2];simpa using h
     rw [hgd] at hr;subst hr;have hlb:=World.block_lt_of_cell? _ _ hc0;rw [Nat.add_zero] at hc0;clear hgd e hl hc h1 hdr e2;go_wp2_with fail;go_ret
     exact ⟨rfl,by repeat (first|(with_reducible exact HkW.out)|(refine Keep.sP ?_ _ _ _ (by omega))|(refine Keep.aP ?_ _)|(refine Keep.dP ?_))⟩
    have hl2:((Ln G:Int) == 1)=false:=by rw [beq_eq_false_iff_ne];omega
    have hgd:(G == 1)=false:=by
     have:G≠1:=fun h=>hl (by rw [h];exact Ln_small (by decide) (by decide))
     simpa using this
    rw [hgd] at hr;subst hr;clear hgd hl hdr;go_wp2_with fail;go_ret
    exact ⟨rfl,by repeat (first|(with_reducible exact HkW.out)|(refine Keep.sP ?_ _ _ _ (by omega))|(refine Keep.aP ?_ _)|(refine Keep.dP ?_))⟩
end Go.Proofs.YtpgffjjpiafhpaaGreatDoor
