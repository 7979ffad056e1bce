/- Parts of a proof: Sk. -/
import Derived.Test.YtejegogbhpmgfaaGreatDoorG24
set_option linter.unusedVariables false
set_option linter.unusedSimpArgs false
set_option maxRecDepth 100000
set_option maxHeartbeats 8000000
namespace Go.Proofs.YtejegogbhpmgfaaGreatDoor
open Go.RowKit Tryz
section
variable {P:Program} {ops:Array Oper} {md:Region.Mode} {S:World→Prop} {Q:Exit→Act→World→Prop}
theorem yjp {n f:Nat} {L:Array Bool→Act→World→Prop} {listed:Array Bool} {a:Act} {w:World} (i:Nat) {o:Oper} (ho:ops[i]? = some o) (hi:i<n) (hf:Region.free md ops listed i=true) (hr:(Region.ready md ops listed).contains i=true)
  (hg:Region.wanted o (yielded ops a.tmps)=false) (hS:S w)
  (h2:∀ K:Act→Prop,(∀ a,ybd P md ops Q S n L f (listed.setIfInBounds i true) a w→K a)→K (a.put o.dst undef)):ybd P md ops Q S n L (f+1) listed a w :=
 .inl ⟨i,o,undef,ho,hi,hf,hr,.inr ⟨hg,rfl⟩,hS,h2 _ (fun _ h=>h)⟩
theorem jS {n f:Nat} {L:Array Bool→Act→World→Prop} {listed:Array Bool} {a:Act} {w:World} (i:Nat) {o:Oper} (hS:S w) (h2:∀ K:Act→Prop,(∀ a,ybd P md ops Q S n L f (listed.setIfInBounds i true) a w→K a)→K (a.put o.dst undef)) (ho:ops[i]? = some o:=by rfl) (hi:i<n:=by decide) (hf:Region.free md ops listed i=true:=by kernel_rfl) (hr:(Region.ready md ops listed).contains i=true:=by kernel_rfl) (hg:Region.wanted o (yielded ops a.tmps)=false:=by rfl):ybd P md ops Q S n L (f+1) listed a w :=
 yjp i ho hi hf hr hg hS h2
end
theorem rv_zero:rv 0 = .agg #[.bool false,.string ⟨#[]⟩,.bool false,.string ⟨#[]⟩]:=by
 show Value.agg #[.bool (sgB 0),.string (mgS 0),.bool false,.string (dnS 1)]=_
 rw [yaX.2 rfl,ycB rfl];rfl
theorem yek (q:Rat):(q*q).num=q.num*q.num∧(q*q).den=q.den*q.den:=by
 have h:(q.num*q.num).natAbs.gcd (q.den*q.den)=1:=by
  rw [Int.natAbs_mul];have:=q.reduced;exact Nat.Coprime.mul_left (Nat.Coprime.mul_right this this) (Nat.Coprime.mul_right this this)
 rw [Rat.num_mul,Rat.den_mul,h];simp
theorem yeX {A R s:Nat} (h1:R*R≤A) (h2:A<(R+1)*(R+1)) (h:A=s*s):R=s:=by
 subst h;have a:R≤s:=Nat.mul_self_le_mul_self_iff.1 h1;have b:s<R+1:=Nat.mul_self_lt_mul_self_iff.1 h2;omega
theorem MSt.fill {W u:World} {l:List (Value × Nat)} {g:Nat} (h:MSt W u l [(g,.cells #[.bool false,.slice none 0 0,.slice none 0 0] 135)]) (b:Bool) (x1:Option Addr) (n1 c1:Nat) (x2:Option Addr) (n2 c2:Nat) :
  ∃ W3,((u.setCell ⟨g,0,none⟩ (.bool b)).setCell ⟨g,1,none⟩ (.slice x1 n1 c1)).setCell ⟨g,2,none⟩ (.slice x2 n2 c2)=W3∧MSt W W3 l [(g,.cells #[.bool b,.slice x1 n1 c1,.slice x2 n2 c2] 135)]:=by
 have hb:=h.2.2.1 (g,.cells #[.bool false,.slice none 0 0,.slice none 0 0] 135) (by simp);obtain⟨W3,e,b3,k3⟩:=st3 (x:=.bool b) (y:=.slice x1 n1 c1) (z:=.slice x2 n2 c2) hb.1;refine ⟨W3,e.symm,h.1.trans k3 (by simp;exact hb.2),fun p hp=>(h.2.1 p hp).aside hb.1 yhW k3,?_,by simp⟩;intro p hp;simp only [List.mem_cons,List.not_mem_nil,or_false] at hp;subst hp;exact ⟨b3,hb.2⟩
def QRoot (a:Rat) (q:Rat) (ok:Bool):Prop:=(ok=true→0≤q∧q*q=a)∧(ok=false→q=0∧∀ r:Rat,r*r≠a)
theorem yhe {a:Rat} (h:sgB a.num=true):QRoot a 0 false:=by
 refine ⟨fun h=>(by cases h),fun _=>⟨rfl,fun r e=>?_⟩⟩;have:=(yek r).1;rw [e] at this;unfold sgB at h;rw [decide_eq_true_iff] at h
 have h2:0≤r.num*r.num:=by
  rcases Int.le_total 0 r.num with k|k
  ·exact Int.mul_nonneg k k
  exact Int.mul_nonneg_of_nonpos_of_nonpos k k
 omega
theorem ygJ {a:Rat} {R:Nat} (h1:R*R≤a.num.natAbs) (h2:a.num.natAbs<(R+1)*(R+1)) (h:R*R≠a.num.natAbs):QRoot a 0 false:=by
 refine ⟨fun h=>(by cases h),fun _=>⟨rfl,fun r e=>h ?_⟩⟩;have k:=(yek r).1;rw [e] at k;have k2:a.num.natAbs=r.num.natAbs*r.num.natAbs:=by rw [k,Int.natAbs_mul]
 rw [yeX h1 h2 k2,k2]
theorem yhu {a:Rat} {R:Nat} (h1:R*R≤a.den) (h2:a.den<(R+1)*(R+1)) (h:R*R≠a.den):QRoot a 0 false:=by
 refine ⟨fun h=>(by cases h),fun _=>⟨rfl,fun r e=>h ?_⟩⟩;have k:=(yek r).2;rw [e] at k;rw [yeX h1 h2 k,k]
theorem ygY {a:Rat} {n d:Nat} (hs:sgB a.num=false) (hn:n*n=a.num.natAbs) (hd:d*d=a.den):QRoot a (Rat.divInt (mk false n) (d:Int)) true:=by
 refine ⟨fun _=>?_,fun h=>(by cases h)⟩
 have hd0:0<d:=by
  rcases Nat.eq_zero_or_pos d with h|h
  ·subst h;have:=a.den_pos;omega
  exact h
 have e:mk false n=(n:Int):=rfl;rw [e];constructor
 ·rw [Rat.divInt_nonneg_iff_of_pos_right (by omega)]
  omega
 rw [Rat.divInt_mul_divInt]
 have h1:(n:Int)*(n:Int)=a.num:=by
  unfold sgB at hs;rw [decide_eq_false_iff_not] at hs;have:((n*n:Nat):Int)=(n:Int)*n:=by simp
  omega
 have h2:(d:Int)*(d:Int)=(a.den:Int):=by rw [← hd];simp
 rw [h1,h2,Rat.num_divInt_den]
def Root2Post (w0:World) (a:Rat) (e:Ending) (w':World):Prop:=∃ q ok,e = .returned (.tuple #[rv q,.bool ok])∧QRoot a q ok∧Keep [] w0 w'
theorem yhC (a:Rat) (ha:FitQ 10000000 a) (w:World):Calls prog 142 #[rv a] w (Root2Post w a):=by
 have HA:Hid (∀ w',Calls prog 136 #[rv a] w' (FracPost w' a)):=fun w'=>of_c w' a (by have:=(ycf ha).1;omega) (by have:=(ycf ha).2;omega);have HL:=jX (yeE ha);have Hno:=jX (yhe (a:=a));have Hn1:Hid (∀ R,_→_→_→_):=fun R=>ygJ (a:=a) (R:=R);have Hn2:Hid (∀ R,_→_→_→_):=fun R=>yhu (a:=a) (R:=R);have Hy:Hid (∀ n d,_→_→_→_):=fun n d=>ygY (a:=a) (n:=n) (d:=d);have h00:=rv_zero;have HQ:Hid (∀ q ok w',QRoot a q ok→Keep [] w w'→Root2Post w a (.returned (.tuple #[rv q,.bool ok])) w'):=fun q ok w' h1 h2=>⟨q,ok,rfl,h1,h2⟩;have HQ0:=jX (HQ.out 0 false);rw [h00] at HQ0;clear h00;have hdp:0<a.den:=a.den_pos;generalize hP:Root2Post w a=P at *;unfold FracPost at HA;unfold rv at HA;unfold rv;generalize sgB a.num=na at *;generalize mgS a.num=sa at *;generalize dnS a.den=da at *;generalize a.num.natAbs=Aa at *;generalize a.den=Da at *;go_enter func142,ntmps142
 go_wp2_with fail;obtain⟨W,ga,gb,hW,ega,egb,Bga,Bgb,hga,hgb,hgW,HkW⟩:=al2h w (.cells #[.bool na,.string sa,.bool false,.string da] 34) (.cells #[.bool false,.string ⟨#[]⟩,.bool false,.string ⟨#[]⟩] 34);rw [← hW];try rw [egb]
 try rw [ega]
 clear hW ega egb;obtain⟨pga,fga,lga⟩:=jQ Bga;go_wp2_with fail;refine (HA.out _).mono ?_;rintro e u1 ⟨z1,z2,rfl,hd1,hd2,hk1⟩;obtain⟨xo,xc,rfl,_⟩:=hd1.form;obtain⟨yo,yc,rfl,_⟩:=hd2.form;have HM:=jX ((MSt.start (Keep.refl [] W)).call hk1 hd1 hd2);clear hd1 hd2 hk1 HA pga fga lga;obtain⟨u2,g,e1,e2,hm⟩:=HM.out.new' (.cells #[.bool false,.slice none 0 0,.slice none 0 0] 135);have Bg:=jX (hm.blk g (.cells #[.bool false,.slice none 0 0,.slice none 0 0] 135) (by simp));obtain⟨pg,fg,lg⟩:=jQ Bg;dsimp only;go_wp2_with fail;obtain⟨u3,e3,hm3⟩:=hm.fill na xo (Ln Aa) xc yo (Ln Da) yc;rw [e3];have HM:=jX hm3;clear hm hm3 e1 e2 e3 pg fg lg Bg;have Bea:=jX (HM.out.blk g (.cells #[.bool na,.slice xo (Ln Aa) xc,.slice yo (Ln Da) yc] 135) (by simp));have HSa:=jX (Keep.drew [] u3);go_wp2_with fail;refine yaj (S:=fun u=>Keep [] u3 u) 6 (by kernel_rfl) (by kernel_rfl) (fun _ _ d _ _ h=>by cases d<;>exact h) ?_;have hS0:=HSa.out;have HM:=jX (HM.out.move hS0);generalize World.drew u3=u at *;clear HSa;refine' jG (v:=_) 0 hS0 (fun w hw=>?hr0) (fun K hK=>?kr0)
 case hr0=>(have pea:=yaa (hw.heap Bea.out (by simp));go_simp;try rfl)
 go_simp;refine hK _ ?_;clear hK K;refine' jG (v:=_) 1 hS0 (fun w hw=>?hr1) (fun K hK=>?kr1)
 case hr1=>(have pea:=yaa (hw.heap Bea.out (by simp));go_simp;try rfl)
 go_simp;refine hK _ ?_;clear hK K;refine' jG (v:=_) 3 hS0 (fun w hw=>?hr3) (fun K hK=>?kr3)
 case hr3=>(have pea:=yaa (hw.heap Bea.out (by simp));go_simp;try rfl)
 go_simp;refine hK _ ?_;clear hK K;refine' jG (v:=_) 4 hS0 (fun w hw=>?hr4) (fun K hK=>?kr4)
 case hr4=>(have pea:=yaa (hw.heap Bea.out (by simp));go_simp;try rfl)
 go_simp;refine hK _ ?_;clear hK K;refine jP 2 (fun K hK=>?_);refine yae 174 #[.slice xo (Ln Aa) xc] (by go_simp) ?_;refine (root_c _ _ _ (HM.out.dr (.slice xo (Ln Aa) xc) Aa (by simp)) HL.out.1).mono ?_;rintro e u1 ⟨qv,R,rfl,hq1R,hq2R,hd1,hk1⟩;obtain⟨qo,qc,rfl,_⟩:=hd1.form;have hS0:=hS0.tz hk1;have HM:=jX (HM.out.call1 hk1 hd1);refine ⟨_,rfl,?_⟩;refine hK _ _ hS0 ?_;clear hK K hk1 hd1;refine jP 5 (fun K hK=>?_);refine yae 174 #[.slice yo (Ln Da) yc] (by go_simp) ?_;refine (root_c _ _ _ (HM.out.dr (.slice yo (Ln Da) yc) Da (by simp)) HL.out.2).mono ?_;rintro e u1 ⟨sv,T,rfl,hq1T,hq2T,hd1,hk1⟩;obtain⟨so,sc,rfl,_⟩:=hd1.form;have hS0:=hS0.tz hk1;have HM:=jX (HM.out.call1 hk1 hd1);refine ⟨_,rfl,?_⟩;refine hK _ _ hS0 ?_;clear hK K hk1 hd1;refine ⟨by kernel_rfl,?_⟩;simp only [List.drop_succ_cons,List.drop_zero];have HS:=jX hS0;have hR:Ln R≤10000000:=by have:=Ln_mono (show R≤Aa by have:=Nat.le_mul_self R;omega);have:=HL.out.1;omega
 have hT:Ln T≤10000000:=by have:=Ln_mono (show T≤Da by have:=Nat.le_mul_self T;omega);have:=HL.out.2;omega
 have HLR:Hid (Ln R≤1000000000∧Ln T≤1000000000∧Ln (R*R)≤1000000000∧Ln (T*T)≤1000000000∧Ln Aa≤1000000000∧Ln Da≤1000000000):=⟨by omega,by omega,by have:=Ln_mul R R;omega,by have:=Ln_mul T T;omega,by have:=HL.out.1;omega,by have:=HL.out.2;omega⟩;have HLT:=jX (And.intro hR hT);have HQ1:=jX (And.intro hq1R hq2R);have HQ2:=jX (And.intro hq1T hq2T);clear hS0 hR hT hq1R hq2R hq1T hq2T;go_wp2_with fail;cases na with
 | true =>
  have QR:=Hno.out rfl;refine yaj (S:=fun u=>Keep [] u3 u) 19 (by kernel_rfl) (by kernel_rfl) (fun _ _ d _ _ h=>by cases d<;>exact h) ?_;have hS0:=HS.out.tz (Keep.drew [] _);have HM:=jX (HM.out.move (Keep.drew [] _));generalize World.drew _=u at *;refine' jG (v:=_) 0 hS0 (fun w hw=>?ha0) (fun K hK=>?ka0)
  case ha0=>(have pea:=yaa (hw.heap Bea.out (by simp));go_simp;try rfl)
  go_simp;refine hK _ ?_;clear hK K;refine' jG (v:=_) 1 hS0 (fun w hw=>?ha1) (fun K hK=>?ka1)
  case ha1=>(have pea:=yaa (hw.heap Bea.out (by simp));go_simp;try rfl)
  go_simp;refine hK _ ?_;clear hK K;refine' jG (v:=_) 2 hS0 (fun w hw=>?ha2) (fun K hK=>?ka2)
  case ha2=>(have pea:=yaa (hw.heap Bea.out (by simp));go_simp;try rfl)
  go_simp;refine hK _ ?_;clear hK K;refine' jS 3 hS0 (fun K hK=>?ka3);go_simp;refine hK _ ?_;clear hK K;refine' jS 4 hS0 (fun K hK=>?ka4);go_simp;refine hK _ ?_;clear hK K;refine' jS 5 hS0 (fun K hK=>?ka5);go_simp;refine hK _ ?_;clear hK K;refine' jS 6 hS0 (fun K hK=>?ka6);go_simp;refine hK _ ?_;clear hK K;refine' jS 7 hS0 (fun K hK=>?ka7);go_simp;refine hK _ ?_;clear hK K;refine' jS 8 hS0 (fun K hK=>?ka8);go_simp;refine hK _ ?_;clear hK K;refine' jS 9 hS0 (fun K hK=>?ka9);go_simp;refine hK _ ?_;clear hK K;refine' jG (v:=_) 10 hS0 (fun w hw=>?ha10) (fun K hK=>?ka10)
  case ha10=>(have pea:=yaa (hw.heap Bea.out (by simp));go_simp;try rfl)
  go_simp;refine hK _ ?_;clear hK K;refine' jG (v:=_) 11 hS0 (fun w hw=>?ha11) (fun K hK=>?ka11)
  case ha11=>(have pea:=yaa (hw.heap Bea.out (by simp));go_simp;try rfl)
  go_simp;refine hK _ ?_;clear hK K;refine' jS 12 hS0 (fun K hK=>?ka12);go_simp;refine hK _ ?_;clear hK K;refine' jS 13 hS0 (fun K hK=>?ka13);go_simp;refine hK _ ?_;clear hK K;refine' jS 14 hS0 (fun K hK=>?ka14);go_simp;refine hK _ ?_;clear hK K;refine' jS 15 hS0 (fun K hK=>?ka15);go_simp;refine hK _ ?_;clear hK K;refine' jS 16 hS0 (fun K hK=>?ka16);go_simp;refine hK _ ?_;clear hK K;refine' jS 17 hS0 (fun K hK=>?ka17);go_simp;refine hK _ ?_;clear hK K;refine' jS 18 hS0 (fun K hK=>?ka18);go_simp;refine hK _ ?_;clear hK K;refine ⟨by kernel_rfl,?_⟩;simp only [List.drop_succ_cons,List.drop_zero];have HS:=jX hS0;clear hS0;have Bgb:=jX (HM.out.1.heap Bgb.out (by simp));have HkW:=jX (HkW.out.tz HM.out.1);obtain⟨pgb,fgb,lgb⟩:=jQ Bgb;go_wp2_with fail;refine bodyPost_ret (v:=.tuple #[.agg #[.bool false,.string ⟨#[]⟩,.bool false,.string ⟨#[]⟩],.bool false]) ?_ rfl (HQ0.out _ QR (by repeat (first|(with_reducible exact HkW.out)|(refine Keep.sP ?_ _ _ _ (by omega))|(refine Keep.aP ?_ _)|(refine Keep.dP ?_))));rw [results_cell_tmp rfl];go_simp
 | false =>
  by_cases h1:R*R=Aa
  ·by_cases h2:T*T=Da
   ·have QR:=Hy.out R T rfl h1 h2
    have HT0 := Lib.hid (show 0 < T by rcases Nat.eq_zero_or_pos T with h | h
                                       ·subst h;omega
                                       exact h)
    have hcm:(Lib.compareInt ((R*R:Nat):Int) (Aa:Int) != 0)=false:=by rw [bne_eq_false_iff_eq];unfold Lib.compareInt;split<;>(try split)<;>omega
    have hcm2:(Lib.compareInt ((T*T:Nat):Int) (Da:Int) != 0)=false:=by rw [bne_eq_false_iff_eq];unfold Lib.compareInt;split<;>(try split)<;>omega
    clear h1 h2;refine yaj (S:=fun u=>Keep [] u3 u) 19 (by kernel_rfl) (by kernel_rfl) (fun _ _ d _ _ h=>by cases d<;>exact h) ?_;have hS0:=HS.out.tz (Keep.drew [] _);have HM:=jX (HM.out.move (Keep.drew [] _));generalize World.drew _=u at *;refine' jG (v:=_) 0 hS0 (fun w hw=>?hd0) (fun K hK=>?kd0)
    case hd0=>(have pea:=yaa (hw.heap Bea.out (by simp));go_simp;try rfl)
    go_simp;refine hK _ ?_;clear hK K;refine' jG (v:=_) 1 hS0 (fun w hw=>?hd1) (fun K hK=>?kd1)
    case hd1=>(have pea:=yaa (hw.heap Bea.out (by simp));go_simp;try rfl)
    go_simp;refine hK _ ?_;clear hK K;refine' jG (v:=_) 2 hS0 (fun w hw=>?hd2) (fun K hK=>?kd2)
    case hd2=>(have pea:=yaa (hw.heap Bea.out (by simp));go_simp;try rfl)
    go_simp;refine hK _ ?_;clear hK K;refine' jG (v:=_) 3 hS0 (fun w hw=>?hd3) (fun K hK=>?kd3)
    case hd3=>(have pea:=yaa (hw.heap Bea.out (by simp));go_simp;try rfl)
    go_simp;refine hK _ ?_;clear hK K;refine' jG (v:=_) 4 hS0 (fun w hw=>?hd4) (fun K hK=>?kd4)
    case hd4=>(have pea:=yaa (hw.heap Bea.out (by simp));go_simp;try rfl)
    go_simp;refine hK _ ?_;clear hK K;refine' jG (v:=_) 6 hS0 (fun w hw=>?hd6) (fun K hK=>?kd6)
    case hd6=>(have pea:=yaa (hw.heap Bea.out (by simp));go_simp;try rfl)
    go_simp;refine hK _ ?_;clear hK K;refine' jG (v:=_) 7 hS0 (fun w hw=>?hd7) (fun K hK=>?kd7)
    case hd7=>(have pea:=yaa (hw.heap Bea.out (by simp));go_simp;try rfl)
    go_simp;refine hK _ ?_;clear hK K;refine jP 5 (fun K hK=>?_);refine yae 137 #[.slice qo (Ln R) qc,.slice qo (Ln R) qc] (by go_simp) ?_;refine (ybM _ _ _ _ _ (HM.out.dr (.slice qo (Ln R) qc) R (by simp)) (HM.out.dr (.slice qo (Ln R) qc) R (by simp)) HLR.out.1 HLR.out.1).mono ?_;rintro e u1 ⟨tv,rfl,hd1,hk1⟩;obtain⟨tb,tc,rfl,_⟩:=hd1.form;have hS0:=hS0.tz hk1;have HM:=jX (HM.out.call1 hk1 hd1);refine ⟨_,rfl,?_⟩;refine hK _ _ hS0 ?_;clear hK K hk1 hd1;have HCM:=yaT _ _ _ _ _ (HM.out.dr (.slice tb (Ln (R*R)) tc) (R*R) (by simp)) (HM.out.dr (.slice xo (Ln Aa) xc) Aa (by simp)) HLR.out.2.2.1 HLR.out.2.2.2.2.1;generalize Lib.compareInt ((R*R:Nat):Int) (Aa:Int)=cm at *;refine jP 8 (fun K hK=>?_);refine yae 140 #[.slice tb (Ln (R*R)) tc,.slice xo (Ln Aa) xc] (by go_simp) ?_;refine (HCM).mono ?_;rintro e u1 ⟨rfl,hk1⟩;have hS0:=hS0.tz hk1;have HM:=jX (HM.out.move hk1);refine ⟨_,rfl,?_⟩;refine hK _ _ hS0 ?_;clear hK K hk1;refine' jG (v:=_) 9 hS0 (fun w hw=>?hd9) (fun K hK=>?kd9)
    case hd9=>(have pea:=yaa (hw.heap Bea.out (by simp));go_simp;try rfl)
    go_simp;refine hK _ ?_;clear hK K;refine' jG (v:=_) 10 hS0 (fun w hw=>?hd10) (fun K hK=>?kd10)
    case hd10=>(have pea:=yaa (hw.heap Bea.out (by simp));go_simp;try rfl)
    go_simp;refine hK _ ?_;clear hK K;refine' jG (v:=_) 11 hS0 (fun w hw=>?hd11) (fun K hK=>?kd11)
    case hd11=>(have pea:=yaa (hw.heap Bea.out (by simp));go_simp;try rfl)
    go_simp;refine hK _ ?_;clear hK K;refine' jG (v:=_) 12 hS0 (fun w hw=>?hd12) (fun K hK=>?kd12)
    case hd12=>(have pea:=yaa (hw.heap Bea.out (by simp));go_simp;try rfl)
    go_simp;refine hK _ ?_;clear hK K;refine' jG (v:=_) 13 hS0 (fun w hw=>?hd13) (fun K hK=>?kd13)
    case hd13=>(have pea:=yaa (hw.heap Bea.out (by simp));go_simp;try rfl)
    go_simp;refine hK _ ?_;clear hK K;refine' jG (v:=_) 15 hS0 (fun w hw=>?hd15) (fun K hK=>?kd15)
    case hd15=>(have pea:=yaa (hw.heap Bea.out (by simp));go_simp;try rfl)
    go_simp;refine hK _ ?_;clear hK K;refine' jG (v:=_) 16 hS0 (fun w hw=>?hd16) (fun K hK=>?kd16)
    case hd16=>(have pea:=yaa (hw.heap Bea.out (by simp));go_simp;try rfl)
    go_simp;refine hK _ ?_;clear hK K;refine jP 14 (fun K hK=>?_);refine yae 137 #[.slice so (Ln T) sc,.slice so (Ln T) sc] (by go_simp) ?_;refine (ybM _ _ _ _ _ (HM.out.dr (.slice so (Ln T) sc) T (by simp)) (HM.out.dr (.slice so (Ln T) sc) T (by simp)) HLR.out.2.1 HLR.out.2.1).mono ?_;rintro e u1 ⟨tv2,rfl,hd1,hk1⟩;obtain⟨vb,vc,rfl,_⟩:=hd1.form;have hS0:=hS0.tz hk1;have HM:=jX (HM.out.call1 hk1 hd1);refine ⟨_,rfl,?_⟩;refine hK _ _ hS0 ?_;clear hK K hk1 hd1;have HCM2:=yaT _ _ _ _ _ (HM.out.dr (.slice vb (Ln (T*T)) vc) (T*T) (by simp)) (HM.out.dr (.slice yo (Ln Da) yc) Da (by simp)) HLR.out.2.2.2.1 HLR.out.2.2.2.2.2;generalize Lib.compareInt ((T*T:Nat):Int) (Da:Int)=cm2 at *;refine jP 17 (fun K hK=>?_);refine yae 140 #[.slice vb (Ln (T*T)) vc,.slice yo (Ln Da) yc] (by go_simp) ?_;refine (HCM2).mono ?_;rintro e u1 ⟨rfl,hk1⟩;have hS0:=hS0.tz hk1;have HM:=jX (HM.out.move hk1);refine ⟨_,rfl,?_⟩;refine hK _ _ hS0 ?_;clear hK K hk1;refine' jG (v:=_) 18 hS0 (fun w hw=>?hd18) (fun K hK=>?kd18)
    case hd18=>(have pea:=yaa (hw.heap Bea.out (by simp));go_simp;try rfl)
    go_simp;refine hK _ ?_;clear hK K;refine ⟨by kernel_rfl,?_⟩;simp only [List.drop_succ_cons,List.drop_zero];have HS:=jX hS0;clear hS0;go_wp2_with fail;refine (ybX _ _ _ false R T (HM.out.dr (.slice qo (Ln R) qc) R (by simp)) (HM.out.dr (.slice so (Ln T) sc) T (by simp)) (by have:=HLT.out.1;omega) (by have:=HLT.out.2;omega) (by have:=HT0.out;omega)).mono ?_;rintro e u9 ⟨rfl,hk1⟩;have HQF:=jX (fun w'=>HQ.out (Rat.divInt (mk false R) (T:Int)) true w' QR);unfold rv at *;generalize sgB (Rat.divInt (mk false R) (T:Int)).num=nr at *;generalize mgS (Rat.divInt (mk false R) (T:Int)).num=sr at *;generalize dnS (Rat.divInt (mk false R) (T:Int)).den=dr at *;dsimp only;have HM:=jX (HM.out.move hk1);clear hk1;have Bgb:=jX (HM.out.1.heap Bgb.out (by simp));have HkW:=jX (HkW.out.tz HM.out.1);obtain⟨pgb,fgb,lgb⟩:=jQ Bgb;go_wp2_with fail;refine bodyPost_ret (v:=.tuple #[.agg #[.bool nr,.string sr,.bool false,.string dr],.bool true]) ?_ rfl (HQF.out _ (by repeat (first|(with_reducible exact HkW.out)|(refine Keep.sP ?_ _ _ _ (by omega))|(refine Keep.aP ?_ _)|(refine Keep.dP ?_))));rw [results_cell_tmp rfl];go_simp
   have QR:=Hn2.out T HQ2.out.1 HQ2.out.2 h2;have hcm:(Lib.compareInt ((R*R:Nat):Int) (Aa:Int) != 0)=false:=by rw [bne_eq_false_iff_eq];unfold Lib.compareInt;split<;>(try split)<;>omega
   have hcm2:(Lib.compareInt ((T*T:Nat):Int) (Da:Int) != 0)=true:=by rw [bne_iff_ne];unfold Lib.compareInt;split<;>(try split)<;>omega
   clear h1 h2;refine yaj (S:=fun u=>Keep [] u3 u) 19 (by kernel_rfl) (by kernel_rfl) (fun _ _ d _ _ h=>by cases d<;>exact h) ?_;have hS0:=HS.out.tz (Keep.drew [] _);have HM:=jX (HM.out.move (Keep.drew [] _));generalize World.drew _=u at *;refine' jG (v:=_) 0 hS0 (fun w hw=>?hc0) (fun K hK=>?kc0)
   case hc0=>(have pea:=yaa (hw.heap Bea.out (by simp));go_simp;try rfl)
   go_simp;refine hK _ ?_;clear hK K;refine' jG (v:=_) 1 hS0 (fun w hw=>?hc1) (fun K hK=>?kc1)
   case hc1=>(have pea:=yaa (hw.heap Bea.out (by simp));go_simp;try rfl)
   go_simp;refine hK _ ?_;clear hK K;refine' jG (v:=_) 2 hS0 (fun w hw=>?hc2) (fun K hK=>?kc2)
   case hc2=>(have pea:=yaa (hw.heap Bea.out (by simp));go_simp;try rfl)
   go_simp;refine hK _ ?_;clear hK K;refine' jG (v:=_) 3 hS0 (fun w hw=>?hc3) (fun K hK=>?kc3)
   case hc3=>(have pea:=yaa (hw.heap Bea.out (by simp));go_simp;try rfl)
   go_simp;refine hK _ ?_;clear hK K;refine' jG (v:=_) 4 hS0 (fun w hw=>?hc4) (fun K hK=>?kc4)
   case hc4=>(have pea:=yaa (hw.heap Bea.out (by simp));go_simp;try rfl)
   go_simp;refine hK _ ?_;clear hK K;refine' jG (v:=_) 6 hS0 (fun w hw=>?hc6) (fun K hK=>?kc6)
   case hc6=>(have pea:=yaa (hw.heap Bea.out (by simp));go_simp;try rfl)
   go_simp;refine hK _ ?_;clear hK K;refine' jG (v:=_) 7 hS0 (fun w hw=>?hc7) (fun K hK=>?kc7)
   case hc7=>(have pea:=yaa (hw.heap Bea.out (by simp));go_simp;try rfl)
   go_simp;refine hK _ ?_;clear hK K;refine jP 5 (fun K hK=>?_);refine yae 137 #[.slice qo (Ln R) qc,.slice qo (Ln R) qc] (by go_simp) ?_;refine (ybM _ _ _ _ _ (HM.out.dr (.slice qo (Ln R) qc) R (by simp)) (HM.out.dr (.slice qo (Ln R) qc) R (by simp)) HLR.out.1 HLR.out.1).mono ?_;rintro e u1 ⟨tv,rfl,hd1,hk1⟩;obtain⟨tb,tc,rfl,_⟩:=hd1.form;have hS0:=hS0.tz hk1;have HM:=jX (HM.out.call1 hk1 hd1);refine ⟨_,rfl,?_⟩;refine hK _ _ hS0 ?_;clear hK K hk1 hd1;have HCM:=yaT _ _ _ _ _ (HM.out.dr (.slice tb (Ln (R*R)) tc) (R*R) (by simp)) (HM.out.dr (.slice xo (Ln Aa) xc) Aa (by simp)) HLR.out.2.2.1 HLR.out.2.2.2.2.1;generalize Lib.compareInt ((R*R:Nat):Int) (Aa:Int)=cm at *;refine jP 8 (fun K hK=>?_);refine yae 140 #[.slice tb (Ln (R*R)) tc,.slice xo (Ln Aa) xc] (by go_simp) ?_;refine (HCM).mono ?_;rintro e u1 ⟨rfl,hk1⟩;have hS0:=hS0.tz hk1;have HM:=jX (HM.out.move hk1);refine ⟨_,rfl,?_⟩;refine hK _ _ hS0 ?_;clear hK K hk1;refine' jG (v:=_) 9 hS0 (fun w hw=>?hc9) (fun K hK=>?kc9)
   case hc9=>(have pea:=yaa (hw.heap Bea.out (by simp));go_simp;try rfl)
   go_simp;refine hK _ ?_;clear hK K;refine' jG (v:=_) 10 hS0 (fun w hw=>?hc10) (fun K hK=>?kc10)
   case hc10=>(have pea:=yaa (hw.heap Bea.out (by simp));go_simp;try rfl)
   go_simp;refine hK _ ?_;clear hK K;refine' jG (v:=_) 11 hS0 (fun w hw=>?hc11) (fun K hK=>?kc11)
   case hc11=>(have pea:=yaa (hw.heap Bea.out (by simp));go_simp;try rfl)
   go_simp;refine hK _ ?_;clear hK K;refine' jG (v:=_) 12 hS0 (fun w hw=>?hc12) (fun K hK=>?kc12)
   case hc12=>(have pea:=yaa (hw.heap Bea.out (by simp));go_simp;try rfl)
   go_simp;refine hK _ ?_;clear hK K;refine' jG (v:=_) 13 hS0 (fun w hw=>?hc13) (fun K hK=>?kc13)
   case hc13=>(have pea:=yaa (hw.heap Bea.out (by simp));go_simp;try rfl)
   go_simp;refine hK _ ?_;clear hK K;refine' jG (v:=_) 15 hS0 (fun w hw=>?hc15) (fun K hK=>?kc15)
   case hc15=>(have pea:=yaa (hw.heap Bea.out (by simp));go_simp;try rfl)
   go_simp;refine hK _ ?_;clear hK K;refine' jG (v:=_) 16 hS0 (fun w hw=>?hc16) (fun K hK=>?kc16)
   case hc16=>(have pea:=yaa (hw.heap Bea.out (by simp));go_simp;try rfl)
   go_simp;refine hK _ ?_;clear hK K;refine jP 14 (fun K hK=>?_);refine yae 137 #[.slice so (Ln T) sc,.slice so (Ln T) sc] (by go_simp) ?_;refine (ybM _ _ _ _ _ (HM.out.dr (.slice so (Ln T) sc) T (by simp)) (HM.out.dr (.slice so (Ln T) sc) T (by simp)) HLR.out.2.1 HLR.out.2.1).mono ?_;rintro e u1 ⟨tv2,rfl,hd1,hk1⟩;obtain⟨vb,vc,rfl,_⟩:=hd1.form;have hS0:=hS0.tz hk1;have HM:=jX (HM.out.call1 hk1 hd1);refine ⟨_,rfl,?_⟩;refine hK _ _ hS0 ?_;clear hK K hk1 hd1;have HCM2:=yaT _ _ _ _ _ (HM.out.dr (.slice vb (Ln (T*T)) vc) (T*T) (by simp)) (HM.out.dr (.slice yo (Ln Da) yc) Da (by simp)) HLR.out.2.2.2.1 HLR.out.2.2.2.2.2;generalize Lib.compareInt ((T*T:Nat):Int) (Da:Int)=cm2 at *;refine jP 17 (fun K hK=>?_);refine yae 140 #[.slice vb (Ln (T*T)) vc,.slice yo (Ln Da) yc] (by go_simp) ?_;refine (HCM2).mono ?_;rintro e u1 ⟨rfl,hk1⟩;have hS0:=hS0.tz hk1;have HM:=jX (HM.out.move hk1);refine ⟨_,rfl,?_⟩;refine hK _ _ hS0 ?_;clear hK K hk1;refine' jG (v:=_) 18 hS0 (fun w hw=>?hc18) (fun K hK=>?kc18)
   case hc18=>(have pea:=yaa (hw.heap Bea.out (by simp));go_simp;try rfl)
   go_simp;refine hK _ ?_;clear hK K;refine ⟨by kernel_rfl,?_⟩;simp only [List.drop_succ_cons,List.drop_zero];have HS:=jX hS0;clear hS0;have Bgb:=jX (HM.out.1.heap Bgb.out (by simp));have HkW:=jX (HkW.out.tz HM.out.1);obtain⟨pgb,fgb,lgb⟩:=jQ Bgb;go_wp2_with fail;refine bodyPost_ret (v:=.tuple #[.agg #[.bool false,.string ⟨#[]⟩,.bool false,.string ⟨#[]⟩],.bool false]) ?_ rfl (HQ0.out _ QR (by repeat (first|(with_reducible exact HkW.out)|(refine Keep.sP ?_ _ _ _ (by omega))|(refine Keep.aP ?_ _)|(refine Keep.dP ?_))));rw [results_cell_tmp rfl];go_simp
  have QR:=Hn1.out R HQ1.out.1 HQ1.out.2 h1;have hcm:(Lib.compareInt ((R*R:Nat):Int) (Aa:Int) != 0)=true:=by rw [bne_iff_ne];unfold Lib.compareInt;split<;>(try split)<;>omega
  clear h1;refine yaj (S:=fun u=>Keep [] u3 u) 19 (by kernel_rfl) (by kernel_rfl) (fun _ _ d _ _ h=>by cases d<;>exact h) ?_;have hS0:=HS.out.tz (Keep.drew [] _);have HM:=jX (HM.out.move (Keep.drew [] _));generalize World.drew _=u at *;refine' jG (v:=_) 0 hS0 (fun w hw=>?hb0) (fun K hK=>?kb0)
  case hb0=>(have pea:=yaa (hw.heap Bea.out (by simp));go_simp;try rfl)
  go_simp;refine hK _ ?_;clear hK K;refine' jG (v:=_) 1 hS0 (fun w hw=>?hb1) (fun K hK=>?kb1)
  case hb1=>(have pea:=yaa (hw.heap Bea.out (by simp));go_simp;try rfl)
  go_simp;refine hK _ ?_;clear hK K;refine' jG (v:=_) 2 hS0 (fun w hw=>?hb2) (fun K hK=>?kb2)
  case hb2=>(have pea:=yaa (hw.heap Bea.out (by simp));go_simp;try rfl)
  go_simp;refine hK _ ?_;clear hK K;refine' jG (v:=_) 3 hS0 (fun w hw=>?hb3) (fun K hK=>?kb3)
  case hb3=>(have pea:=yaa (hw.heap Bea.out (by simp));go_simp;try rfl)
  go_simp;refine hK _ ?_;clear hK K;refine' jG (v:=_) 4 hS0 (fun w hw=>?hb4) (fun K hK=>?kb4)
  case hb4=>(have pea:=yaa (hw.heap Bea.out (by simp));go_simp;try rfl)
  go_simp;refine hK _ ?_;clear hK K;refine' jG (v:=_) 6 hS0 (fun w hw=>?hb6) (fun K hK=>?kb6)
  case hb6=>(have pea:=yaa (hw.heap Bea.out (by simp));go_simp;try rfl)
  go_simp;refine hK _ ?_;clear hK K;refine' jG (v:=_) 7 hS0 (fun w hw=>?hb7) (fun K hK=>?kb7)
  case hb7=>(have pea:=yaa (hw.heap Bea.out (by simp));go_simp;try rfl)
  go_simp;refine hK _ ?_;clear hK K;refine jP 5 (fun K hK=>?_);refine yae 137 #[.slice qo (Ln R) qc,.slice qo (Ln R) qc] (by go_simp) ?_;refine (ybM _ _ _ _ _ (HM.out.dr (.slice qo (Ln R) qc) R (by simp)) (HM.out.dr (.slice qo (Ln R) qc) R (by simp)) HLR.out.1 HLR.out.1).mono ?_;rintro e u1 ⟨tv,rfl,hd1,hk1⟩;obtain⟨tb,tc,rfl,_⟩:=hd1.form;have hS0:=hS0.tz hk1;have HM:=jX (HM.out.call1 hk1 hd1);refine ⟨_,rfl,?_⟩;refine hK _ _ hS0 ?_;clear hK K hk1 hd1;have HCM:=yaT _ _ _ _ _ (HM.out.dr (.slice tb (Ln (R*R)) tc) (R*R) (by simp)) (HM.out.dr (.slice xo (Ln Aa) xc) Aa (by simp)) HLR.out.2.2.1 HLR.out.2.2.2.2.1;generalize Lib.compareInt ((R*R:Nat):Int) (Aa:Int)=cm at *;refine jP 8 (fun K hK=>?_);refine yae 140 #[.slice tb (Ln (R*R)) tc,.slice xo (Ln Aa) xc] (by go_simp) ?_;refine (HCM).mono ?_;rintro e u1 ⟨rfl,hk1⟩;have hS0:=hS0.tz hk1;have HM:=jX (HM.out.move hk1);refine ⟨_,rfl,?_⟩;refine hK _ _ hS0 ?_;clear hK K hk1;refine' jG (v:=_) 9 hS0 (fun w hw=>?hb9) (fun K hK=>?kb9)
  case hb9=>(have pea:=yaa (hw.heap Bea.out (by simp));go_simp;try rfl)
  go_simp;refine hK _ ?_;clear hK K;refine' jG (v:=_) 10 hS0 (fun w hw=>?hb10) (fun K hK=>?kb10)
  case hb10=>(have pea:=yaa (hw.heap Bea.out (by simp));go_simp;try rfl)
  go_simp;refine hK _ ?_;clear hK K;refine' jG (v:=_) 11 hS0 (fun w hw=>?hb11) (fun K hK=>?kb11)
  case hb11=>(have pea:=yaa (hw.heap Bea.out (by simp));go_simp;try rfl)
  go_simp;refine hK _ ?_;clear hK K;refine' jS 12 hS0 (fun K hK=>?kb12);go_simp;refine hK _ ?_;clear hK K;refine' jS 13 hS0 (fun K hK=>?kb13);go_simp;refine hK _ ?_;clear hK K;refine' jS 14 hS0 (fun K hK=>?kb14);go_simp;refine hK _ ?_;clear hK K;refine' jS 15 hS0 (fun K hK=>?kb15);go_simp;refine hK _ ?_;clear hK K;refine' jS 16 hS0 (fun K hK=>?kb16);go_simp;refine hK _ ?_;clear hK K;refine' jS 17 hS0 (fun K hK=>?kb17);go_simp;refine hK _ ?_;clear hK K;refine' jS 18 hS0 (fun K hK=>?kb18);go_simp;refine hK _ ?_;clear hK K;refine ⟨by kernel_rfl,?_⟩;simp only [List.drop_succ_cons,List.drop_zero];have HS:=jX hS0;clear hS0;have Bgb:=jX (HM.out.1.heap Bgb.out (by simp));have HkW:=jX (HkW.out.tz HM.out.1);obtain⟨pgb,fgb,lgb⟩:=jQ Bgb;go_wp2_with fail;refine bodyPost_ret (v:=.tuple #[.agg #[.bool false,.string ⟨#[]⟩,.bool false,.string ⟨#[]⟩],.bool false]) ?_ rfl (HQ0.out _ QR (by repeat (first|(with_reducible exact HkW.out)|(refine Keep.sP ?_ _ _ _ (by omega))|(refine Keep.aP ?_ _)|(refine Keep.dP ?_))));rw [results_cell_tmp rfl];go_simp
end Go.Proofs.YtejegogbhpmgfaaGreatDoor
