/- Parts of a proof: Sk Sl Ps Sp Pl. -/
import Derived.Laws.AppendOwnNone
import Derived.Deep.DeepCutAuto
import Derived.Deep.Cut
import Derived.Deep.CutRange
import Derived.Test.YtpgffjjpiafhpaaGreatDoorU08
import Derived.Test.YtpgffjjpiafhpaaGreatDoorU03
import Derived.Test.YtpgffjjpiafhpaaGreatDoorU05
import Derived.Test.YtpgffjjpiafhpaaGreatDoorU04
import Derived.Test.YtpgffjjpiafhpaaGreatDoorU09
import Derived.Test.YtpgffjjpiafhpaaGreatDoorU12
import Derived.Test.YtpgffjjpiafhpaaGreatDoorU10
set_option linter.unusedVariables false
set_option linter.unusedSimpArgs false
set_option linter.unusedSectionVars false
set_option maxRecDepth 100000
set_option maxHeartbeats 8000000
namespace Go.Proofs.YtpgffjjpiafhpaaGreatDoor
open Go.RowKit Tryz
section
variable {P:Program} {ops:Array Oper} {md:Region.Mode} {S:World→Prop} {Q:Exit→Act→World→Prop}
theorem yfu {n f:Nat} {L:Array Bool→Act→World→Prop} {listed:Array Bool} {a:Act} {w:World} (i:Nat) {o:Oper} (ho:ops[i]? = some o) (hi:i<n) (hf:Region.free md ops listed i=true) (hr:(Region.ready md ops listed).contains i=true)
  (hg:Region.wanted o (yielded ops a.tmps)=false) (hS:S w)
  (h2:∀ K:Act→Prop,(∀ a,yaD P md ops Q S n L f (listed.setIfInBounds i true) a w→K a)→K (a.put o.dst undef)):yaD P md ops Q S n L (f+1) listed a w :=
 .inl ⟨i,o,undef,ho,hi,hf,hr,.inr ⟨hg,rfl⟩,hS,h2 _ (fun _ h=>h)⟩
theorem jS {n f:Nat} {L:Array Bool→Act→World→Prop} {listed:Array Bool} {a:Act} {w:World} (i:Nat) {o:Oper} (hS:S w) (h2:∀ K:Act→Prop,(∀ a,yaD P md ops Q S n L f (listed.setIfInBounds i true) a w→K a)→K (a.put o.dst undef)) (ho:ops[i]? = some o:=by rfl) (hi:i<n:=by decide) (hf:Region.free md ops listed i=true:=by kernel_rfl) (hr:(Region.ready md ops listed).contains i=true:=by kernel_rfl) (hg:Region.wanted o (yielded ops a.tmps)=false:=by rfl):yaD P md ops Q S n L (f+1) listed a w :=
 yfu i ho hi hf hr hg hS h2
end
theorem rv_zero:rv 0 = .agg #[.bool false,.string ⟨#[]⟩,.bool false,.string ⟨#[]⟩]:=by
 show Value.agg #[.bool (sgB 0),.string (mgS 0),.bool false,.string (dnS 1)]=_
 rw [yba.2 rfl,ydD rfl];rfl
theorem yfZ (q:Rat):(q*q).num=q.num*q.num∧(q*q).den=q.den*q.den:=by
 have h:(q.num*q.num).natAbs.gcd (q.den*q.den)=1:=by
  rw [Int.natAbs_mul];have:=q.reduced;exact Nat.Coprime.mul_left (Nat.Coprime.mul_right this this) (Nat.Coprime.mul_right this this)
 rw [Rat.num_mul,Rat.den_mul,h];simp
theorem yfm {A R s:Nat} (h1:R*R≤A) (h2:A<(R+1)*(R+1)) (h:A=s*s):R=s:=by
 subst h;have a:R≤s:=Nat.mul_self_le_mul_self_iff.1 h1;have b:s<R+1:=Nat.mul_self_lt_mul_self_iff.1 h2;omega
def QRoot (a:Rat) (q:Rat) (ok:Bool):Prop:=(ok=true→0≤q∧q*q=a)∧(ok=false→q=0∧∀ r:Rat,r*r≠a)
theorem qroot_neg {a:Rat} (h:sgB a.num=true):QRoot a 0 false:=by
 refine ⟨fun h=>(by cases h),fun _=>⟨rfl,fun r e=>?_⟩⟩;have:=(yfZ r).1;rw [e] at this;unfold sgB at h;rw [decide_eq_true_iff] at h
 have h2:0≤r.num*r.num:=by
  rcases Int.le_total 0 r.num with k|k
  ·exact Int.mul_nonneg k k
  exact Int.mul_nonneg_of_nonpos_of_nonpos k k
 omega
theorem qroot_num {a:Rat} {R:Nat} (h1:R*R≤a.num.natAbs) (h2:a.num.natAbs<(R+1)*(R+1)) (h:R*R≠a.num.natAbs):QRoot a 0 false:=by
 refine ⟨fun h=>(by cases h),fun _=>⟨rfl,fun r e=>h ?_⟩⟩;have k:=(yfZ r).1;rw [e] at k;have k2:a.num.natAbs=r.num.natAbs*r.num.natAbs:=by rw [k,Int.natAbs_mul]
 rw [yfm h1 h2 k2,k2]
theorem qroot_den {a:Rat} {R:Nat} (h1:R*R≤a.den) (h2:a.den<(R+1)*(R+1)) (h:R*R≠a.den):QRoot a 0 false:=by
 refine ⟨fun h=>(by cases h),fun _=>⟨rfl,fun r e=>h ?_⟩⟩;have k:=(yfZ r).2;rw [e] at k;rw [yfm h1 h2 k,k]
theorem qroot_yes {a:Rat} {n d:Nat} (hs:sgB a.num=false) (hn:n*n=a.num.natAbs) (hd:d*d=a.den):QRoot a (Rat.divInt (mk false n) (d:Int)) true:=by
 refine ⟨fun _=>?_,fun h=>(by cases h)⟩
 have hd0:0<d:=by
  rcases Nat.eq_zero_or_pos d with h|h
  ·subst h;have:=a.den_pos;omega
  exact h
 have e:mk false n=(n:Int):=rfl;rw [e];constructor
 ·rw [Rat.divInt_nonneg_iff_of_pos_right (by omega)]
  omega
 rw [Rat.divInt_mul_divInt]
 have h1:(n:Int)*(n:Int)=a.num:=by
  unfold sgB at hs;rw [decide_eq_false_iff_not] at hs;have:((n*n:Nat):Int)=(n:Int)*n:=by simp
  omega
 have h2:(d:Int)*(d:Int)=(a.den:Int):=by rw [← hd];simp
 rw [h1,h2,Rat.num_divInt_den]
def isI (n:Bool) (s:ByteArray):Bool:=if h:0<s.size then (((s[0]'h).toNat:Nat):Int) != 0 else !n
theorem ydK {s:ByteArray} (h:s.size=0):s=⟨#[]⟩:=ByteArray.ext (by apply Array.eq_empty_of_size_eq_zero;exact h)
theorem isI_can {n:Bool} {s:ByteArray}:isI n s=true↔CanS s∧(s.size=0→n=false):=by
 unfold isI;split
 ·rename_i h
  obtain⟨⟨l⟩⟩:=s;cases l with
  | nil=>exact absurd h (by simp [ByteArray.size])
  | cons b l =>
   have e:(⟨⟨b :: l⟩⟩:ByteArray)[0]'h=b:=rfl;rw [e];unfold CanS CanL;simp only [List.head?_cons,Option.some.injEq,forall_eq',bne_iff_ne,ne_eq];constructor
   ·intro h2
    refine ⟨fun h3=>h2 (by rw [h3];rfl),fun h3=>absurd h3 (by simp [ByteArray.size])⟩
   rintro ⟨h2,_⟩ h3;exact h2 (UInt8.toNat_inj.1 (by simpa using h3))
 rename_i h;have h0:s.size=0:=by omega
 have e:=ydK h0;subst e;unfold CanS CanL;simp [h0]
theorem yeV {n:Bool} {s:ByteArray}:isI n s=true↔∃ z:Int,sgB z=n∧mgS z=s:=by
 rw [isI_can];constructor
 ·rintro ⟨h1,h2⟩
  refine ⟨mk n (natB s),?_,?_⟩
  ·rw [mk_sg]
   cases n
   ·rfl
   by_cases h0:natB s=0
   ·exfalso
    have:=ycf s h1;rw [h0,show magS 0=⟨#[]⟩ from yba.2 (rfl:(0:Int)=0)] at this
    have h3:=h2 (by rw [← this];rfl);cases h3
   simp [h0]
  rw [yhG,ycf s h1]
 rintro ⟨z,rfl,rfl⟩;refine ⟨mg_can z,fun h=>?_⟩;have:=yba.1 (ydK h);subst this;rfl
def chkQ (n:Bool) (s:ByteArray) (m:Bool) (t:ByteArray):Bool:=isI n s&&isI m t && !m&&(decide (t.size=0) || (decide (t≠⟨#[1]⟩)&&decide (Nat.gcd (natB s) (natB t)=1)))
theorem magS_one:magS 1=⟨#[1]⟩:=by
 have h:=ycf ⟨#[1]⟩ (by unfold CanS CanL;simp);have e:natB ⟨#[1]⟩=1:=rfl;rw [e] at h;exact h
theorem ycT {n:Bool} {s:ByteArray} {m:Bool} {t:ByteArray}:chkQ n s m t=true↔∃ q:Rat,n=sgB q.num∧s=mgS q.num∧m=false∧t=dnS q.den:=by
 unfold chkQ;simp only [Bool.and_eq_true,Bool.or_eq_true,decide_eq_true_eq,Bool.not_eq_true'];constructor
 ·rintro ⟨⟨⟨h1,h2⟩,rfl⟩,h3⟩
  obtain⟨z,rfl,rfl⟩:=yeV.1 h1;have ht:=(isI_can.1 h2).1;rcases h3 with h3|⟨h3,h4⟩
  ·exact ⟨(z:Rat),rfl,rfl,rfl,by rw [ydK h3];exact (ydD rfl).symm⟩
  rw [yaK] at h4;have hd1:natB t≠1:=fun e=>h3 (by rw [← ycf t ht,e,magS_one]);by_cases hd0:natB t=0
  ·have e:t=⟨#[]⟩:=by rw [← ycf t ht,hd0,magS_zero]
   exact ⟨(z:Rat),rfl,rfl,rfl,by rw [e];exact (ydD rfl).symm⟩
  refine ⟨⟨z,natB t,hd0,h4⟩,rfl,rfl,rfl,?_⟩;show t=dnS (natB t)
  rw [yfE hd1,ycf t ht]
 rintro ⟨q,rfl,rfl,rfl,rfl⟩;refine ⟨⟨⟨yeV.2 ⟨_,rfl,rfl⟩,?_⟩,rfl⟩,?_⟩
 ·by_cases h1:q.den=1
  ·rw [h1,ydD rfl];rfl
  rw [yfE h1];refine yeV.2 ⟨(q.den:Int),?_,?_⟩
  ·unfold sgB;simp
  unfold mgS;simp
 by_cases h1:q.den=1
 ·rw [h1,ydD rfl];exact .inl rfl
 rw [yfE h1];refine .inr ⟨fun e=>h1 ?_,?_⟩
 ·have:=congrArg natB e
  rw [yat] at this;exact this
 rw [yaK,yat];exact q.reduced
theorem sgn_zero:sgn 0=0:=by decide
def d1 (a:Rat) (u:Int) (r:Rat):Int :=
 if sgn a=0 then u*sgn r else if u*sgn r=0∨sgn a=u*sgn r then sgn a else sgn a*sgn (a*a-r)
def d2 (a:Rat) (u:Int) (r:Rat) (v:Int) (s:Rat):Int :=
 if d1 a u r≠v*sgn s∨d1 a u r=0 then (if v*sgn s<d1 a u r then 1 else d1 a u r-v*sgn s) else d1 a u r*d1 (a*a+r-s) (u*sgn a) (4*(a*a*r))
theorem fit0:FitQ 1 0:=by refine ⟨?_,?_⟩<;>rw [Fit_iff]<;>decide
theorem yhY (a b c d e f g h:Value) (i:Bool):prog.built 30 [(0,.agg #[a,b,c,d]),(1,.agg #[e,f,g,h]),(2,.bool i)]=some #[a,b,c,d,e,f,g,h,.bool i]:=by kernel_rfl
structure Bd (α:Type) where
 pt:α
 beh:Bool
section
open Classical
variable {α:Type} [LE α] [LT α] [Std.LawfulOrderLT α] [Std.IsLinearOrder α]
instance:LE (Bd α):=⟨fun a b=>a.pt<b.pt∨(a.pt=b.pt∧(a.beh=true→b.beh=true))⟩
instance:LT (Bd α):=⟨fun a b=>a.pt<b.pt∨(a.pt=b.pt∧a.beh=false∧b.beh=true)⟩
theorem Bd.le_def {a b:Bd α}:a≤b↔a.pt<b.pt∨(a.pt=b.pt∧(a.beh=true→b.beh=true)):=Iff.rfl
theorem Bd.lt_def {a b:Bd α}:a<b↔a.pt<b.pt∨(a.pt=b.pt∧a.beh=false∧b.beh=true):=Iff.rfl
theorem Bd.ext {a b:Bd α} (h:a.pt=b.pt) (h2:a.beh=b.beh):a=b:=by cases a;cases b;simp_all
instance:Std.IsLinearOrder (Bd α) where
 le_refl a:=.inr ⟨rfl,id⟩
 le_trans a b c h h2:=by
  rw [Bd.le_def] at *;grind
 le_antisymm a b h h2:=by
  rw [Bd.le_def] at *;have h3:a.pt=b.pt:=by grind
  refine Bd.ext h3 ?_;cases ha:a.beh<;>cases hb:b.beh<;>grind
 le_total a b:=by
  rw [Bd.le_def,Bd.le_def];grind
instance:Std.LawfulOrderLT (Bd α) where
 lt_iff a b:=by
  rw [Bd.lt_def,Bd.le_def,Bd.le_def];cases ha:a.beh<;>cases hb:b.beh<;>grind
structure Iv (α:Type) where
 f:Bd α
 l:Bd α
noncomputable def Iv.has (i:Iv α) (x:Bd α):Bool:=decide (i.f≤x∧x<i.l)
noncomputable def hasL (l:List (Iv α)) (x:Bd α):Bool:=l.any (fun i=>i.has x)
def NormF:List (Iv α)→Bd α→Prop
 | [],_=>True
 | i :: l,b=>b<i.f∧i.f<i.l∧NormF l i.l
def Norm:List (Iv α)→Prop
 | []=>True
 | i :: l=>i.f<i.l∧NormF l i.l
theorem Iv.hI {i:Iv α} {x:Bd α}:i.has x=true↔i.f≤x∧x<i.l:=by unfold Iv.has;simp
theorem yaE {i:Iv α} {l:List (Iv α)} {x:Bd α}:hasL (i :: l) x=(i.has x || hasL l x):=rfl
theorem ycV {x:Bd α}:hasL [] x=false:=rfl
theorem NormF.before {l:List (Iv α)} {b:Bd α} (h:NormF l b) {x:Bd α} (hx:x≤b):hasL l x=false:=by
 induction l generalizing b with
 | nil=>rfl
 | cons i l ih =>
  obtain⟨h1,h2,h3⟩:=h;rw [yaE,ih h3 (by grind),Bool.or_false];rw [← Bool.not_eq_true,Iv.hI];grind
theorem NormF.norm {l:List (Iv α)} {b:Bd α} (h:NormF l b):Norm l:=by
 cases l with
 | nil=>trivial
 | cons i l=>exact h.2
theorem NormF.mono {l:List (Iv α)} {b c:Bd α} (h:NormF l b) (hc:c≤b):NormF l c:=by
 cases l with
 | nil=>trivial
 | cons i l=>exact ⟨by have:=h.1;grind,h.2⟩
theorem yfh {l m:List (Iv α)} (hl:Norm l) (hm:Norm m) (h:∀ x,hasL l x=hasL m x):l=m:=by
 induction l generalizing m with
 | nil =>
  cases m with
  | nil=>rfl
  | cons j m =>
   exfalso;have:=h j.f;rw [yaE,Iv.hI.2 ⟨by grind,hm.1⟩,ycV] at this;simp at this
 | cons i l ih =>
  cases m with
  | nil =>
   exfalso;have:=h i.f;rw [yaE,Iv.hI.2 ⟨by grind,hl.1⟩,ycV] at this;simp at this
  | cons j m =>
   have e1:i.f=j.f:=by
    have k1:=h i.f;have k2:=h j.f;rw [yaE,yaE] at k1 k2;rw [Iv.hI.2 ⟨by grind,hl.1⟩,Bool.true_or] at k1;rw [Iv.hI.2 ⟨by grind,hm.1⟩,Bool.true_or] at k2;by_cases c:i.f<j.f
    ·exfalso
     rw [hm.2.before (by have:=hm.1;grind),Bool.or_false] at k1;have:=Iv.hI.1 k1.symm;grind
    by_cases c2:j.f<i.f
    ·exfalso
     rw [hl.2.before (by have:=hl.1;grind),Bool.or_false] at k2;have:=Iv.hI.1 k2;grind
    grind
   have e2:i.l=j.l:=by
    by_cases c:i.l<j.l
    ·exfalso
     have k:=h i.l;rw [yaE,yaE,hl.2.before (by grind),Bool.or_false,Iv.hI.2 ⟨by have:=hl.1;grind,c⟩,Bool.true_or] at k;have:=Iv.hI.1 k;grind
    by_cases c2:j.l<i.l
    ·exfalso
     have k:=h j.l;rw [yaE,yaE,hm.2.before (by grind),Bool.or_false,(Iv.hI (i:=i)).2 ⟨by have:=hm.1;grind,c2⟩,Bool.true_or] at k;have:=Iv.hI.1 k.symm;grind
    grind
   have e:i=j:=by cases i;cases j;simp_all
   subst e;rw [ih hl.2.norm hm.2.norm];intro x;by_cases c:x<i.l
   ·rw [hl.2.before (by grind),hm.2.before (by grind)]
   have:=h x;rw [yaE,yaE] at this
   have hn:i.has x=false:=by
    rw [← Bool.not_eq_true,Iv.hI];grind
   rw [hn] at this
   simpa using this
def run (F:Bd α→Bool):List (Bd α)→Option (Bd α)→List (Iv α)
 | [],_=>[]
 | b :: l,none=>if F b then run F l (some b) else run F l none
 | b :: l,some c=>if F b then run F l (some c) else ⟨c,b⟩ :: run F l none
def Up:List (Bd α)→Bd α→Prop
 | [],_=>True
 | b :: l,a=>a<b∧Up l b
theorem Up.all {l:List (Bd α)} {a:Bd α} (h:Up l a):∀ c∈l,a<c:=by
 induction l generalizing a with
 | nil=>simp
 | cons b l ih =>
  intro c hc;rcases List.mem_cons.1 hc with rfl|hc
  ·exact h.1
  have:=ih h.2 c hc;have:=h.1;grind
theorem run_law {F:Bd α→Bool} (l:List (Bd α)):∀ lo:Bd α,Up l lo→(∀ x y,lo≤x→lo≤y→(∀ c∈l,c≤x↔c≤y)→F x=F y)→(∀ x,lo≤x→(∀ c∈l,c≤x)→F x=false) →
  (F lo=false→NormF (run F l none) lo∧∀ x,lo≤x→hasL (run F l none) x=F x) ∧
  (∀ c,c≤lo→F lo=true→∃ e m,run F l (some c)=⟨c,e⟩ :: m∧lo<e∧NormF m e∧∀ x,lo≤x→hasL (run F l (some c)) x=F x):=by
 induction l with
 | nil =>
  intro lo hu hj he;refine ⟨fun _=>⟨trivial,fun x hx=>?_⟩,fun c hc h=>?_⟩
  ·rw [he x hx (by simp)];rfl
  rw [he lo (by grind) (by simp)] at h;exact absurd h (by simp)
 | cons b l ih =>
  intro lo hu hj he;have hlo:lo<b:=hu.1
  have hjb:∀ x y,b≤x→b≤y→(∀ c∈l,c≤x↔c≤y)→F x=F y:=fun x y hx hy h=>by
   refine hj x y (by grind) (by grind) (fun c hc=>?_);rcases List.mem_cons.1 hc with rfl|hc
   ·grind
   exact h c hc
  have heb:∀ x,b≤x→(∀ c∈l,c≤x)→F x=false:=fun x hx h=>by
   refine he x (by grind) (fun c hc=>?_);rcases List.mem_cons.1 hc with rfl|hc
   ·exact hx
   exact h c hc
  obtain⟨i1,i2⟩:=ih b hu.2 hjb heb;have hall:=hu.2.all
  have same:∀ x,lo≤x→x<b→F x=F lo:=fun x hx hb=>by
   refine hj x lo hx (by grind) (fun c hc=>?_);rcases List.mem_cons.1 hc with rfl|hc
   ·grind
   have:=hall c hc;grind
  refine ⟨fun h0=>?_,fun c hc h0=>?_⟩
  ·unfold run
   by_cases hb:F b=true
   ·rw [if_pos hb]
    obtain⟨e,m,e1,e2,e3,e4⟩:=i2 b (by grind) hb;rw [e1] at e4 ⊢;refine ⟨⟨hlo,e2,e3⟩,fun x hx=>?_⟩;by_cases hxb:x<b
    ·have hn:NormF (⟨b,e⟩ :: m) lo:=⟨hlo,e2,e3⟩
     rw [same x hx hxb,h0,yaE,e3.before (by grind),Bool.or_false,← Bool.not_eq_true,Iv.hI];grind
    exact e4 x (by grind)
   rw [if_neg hb];obtain⟨k1,k2⟩:=i1 (by simpa using hb);refine ⟨k1.mono (by grind),fun x hx=>?_⟩;by_cases hxb:x<b
   ·rw [same x hx hxb,h0,k1.before (by grind)]
   exact k2 x (by grind)
  unfold run;by_cases hb:F b=true
  ·rw [if_pos hb]
   obtain⟨e,m,e1,e2,e3,e4⟩:=i2 c (by grind) hb;refine ⟨e,m,e1,by grind,e3,fun x hx=>?_⟩;by_cases hxb:x<b
   ·rw [same x hx hxb,h0,e1,yaE,Iv.hI.2 ⟨by grind,by grind⟩,Bool.true_or]
   exact e4 x (by grind)
  rw [if_neg hb];obtain⟨k1,k2⟩:=i1 (by simpa using hb);refine ⟨b,_,rfl,hlo,k1,fun x hx=>?_⟩;by_cases hxb:x<b
  ·rw [same x hx hxb,h0,yaE,Iv.hI.2 ⟨by grind,by grind⟩,Bool.true_or]
  rw [yaE,k2 x (by grind)]
  have hn:(Iv.mk c b).has x=false:=by
   rw [← Bool.not_eq_true,Iv.hI];grind
  rw [hn,Bool.false_or]
def Ups:List (Bd α)→Prop
 | []=>True
 | b :: l=>Up l b
theorem yiS {F:Bd α→Bool} {l:List (Bd α)} (hu:Ups l) (hj:∀ x y,(∀ c∈l,c≤x↔c≤y)→F x=F y) (h0:∀ x,(∀ c∈l,x<c)→F x=false) (h1:∀ x,(∀ c∈l,c≤x)→F x=false) :
  Norm (run F l none)∧∀ x,hasL (run F l none) x=F x:=by
 cases l with
 | nil=>exact ⟨trivial,fun x=>by rw [h0 x (by simp)];rfl⟩
 | cons b l =>
  have hall:=Up.all hu
  obtain⟨i1,i2⟩:=run_law (F:=F) l b hu (fun x y hx hy h=>hj x y (fun c hc=>by
   rcases List.mem_cons.1 hc with rfl|hc
   ·grind
   ·exact h c hc)) (fun x hx h=>h1 x (fun c hc=>by
   rcases List.mem_cons.1 hc with rfl|hc
   ·exact hx
   exact h c hc))
  have low:∀ x,x<b→F x=false:=fun x hx=>h0 x (fun c hc=>by
   rcases List.mem_cons.1 hc with rfl|hc
   ·exact hx
   have:=hall c hc
   grind)
  unfold run;by_cases hb:F b=true
  ·rw [if_pos hb]
   obtain⟨e,m,e1,e2,e3,e4⟩:=i2 b (by grind) hb;rw [e1] at e4 ⊢;refine ⟨⟨e2,e3⟩,fun x=>?_⟩;by_cases hx:x<b
   ·rw [low x hx,yaE,e3.before (by grind),Bool.or_false,← Bool.not_eq_true,Iv.hI]
    grind
   exact e4 x (by grind)
  rw [if_neg hb];obtain⟨k1,k2⟩:=i1 (by simpa using hb);refine ⟨k1.norm,fun x=>?_⟩;by_cases hx:x<b
  ·rw [low x hx,k1.before (by grind)]
  exact k2 x (by grind)
def yhT (l:List (Iv α)) (b:Bd α):List (Iv α):=match l.getLast? with
 | none=>l
 | some i=>l.dropLast++[⟨i.f,b⟩]
theorem ybp {l:List (Iv α)} {i:Iv α} {b:Bd α}:yhT (l++[i]) b=l++[⟨i.f,b⟩]:=by
 unfold yhT;simp
def ydJ (here op:Bool) (t:α) (out:List (Iv α)):List (Iv α) :=
 if op then yhT out ⟨t,here⟩ else if here then out++[⟨⟨t,false⟩,⟨t,true⟩⟩] else out
def yeU (here btw:Bool) (t n:α) (out:List (Iv α)):List (Iv α) :=
 if btw && !here then out++[⟨⟨t,true⟩,⟨n,false⟩⟩] else out
def combL (H:α→Bool) (S:α→α→Bool):List α→Bool→List (Iv α)→List (Iv α)
 | [],_,out=>out
 | [t],op,out=>ydJ (H t) op t out
 | t :: n :: r,op,out=>combL H S (n :: r) (S t n) (yeU (H t) (S t n) t n (ydJ (H t) op t out))
def bor:List α→List (Bd α)
 | []=>[]
 | t :: r=>⟨t,false⟩ :: ⟨t,true⟩ :: bor r
def Asks (F:Bd α→Bool) (H:α→Bool) (S:α→α→Bool):List α→Prop
 | []=>True
 | [t]=>H t=F ⟨t,false⟩∧F ⟨t,true⟩=false
 | t :: n :: r=>H t=F ⟨t,false⟩∧S t n=F ⟨t,true⟩∧Asks F H S (n :: r)
theorem combL_run {F:Bd α→Bool} {H:α→Bool} {S:α→α→Bool} (l:List α):Asks F H S l→∀ out,
  combL H S l false out=out++run F (bor l) none∧∀ c e,(l≠[])→combL H S l true (out++[⟨c,e⟩])=out++run F (bor l) (some c):=by
 induction l with
 | nil=>intro h out;exact ⟨by simp [combL,bor,run],fun c e h=>absurd rfl h⟩
 | cons t r ih =>
  cases r with
  | nil =>
   intro h out;obtain⟨h1,h2⟩:=h;refine ⟨?_,fun c e _=>?_⟩
   ·cases hh:F ⟨t,false⟩<;>simp [combL,ydJ,bor,run,h1,h2,hh]
   cases hh:F ⟨t,false⟩<;>simp [combL,ydJ,bor,run,h1,h2,hh,ybp]
  | cons n r =>
   intro h out;obtain⟨h1,h2,h3⟩:=h;have ih:=ih h3;have hne:n :: r≠[]:=by simp
   refine ⟨?_,fun c e _=>?_⟩
   ·cases hh:F ⟨t,false⟩<;>cases hb:F ⟨t,true⟩<;>rw [combL,h1,h2,hh,hb]
    ·simp only [ydJ,yeU,Bool.false_eq_true,if_false,Bool.false_and]
     rw [(ih _).1];simp [bor,run,hh,hb]
    ·simp only [ydJ,yeU,Bool.false_eq_true,if_false,Bool.not_false,Bool.and_self,if_true]
     rw [(ih _).2 _ _ hne];simp [bor,run,hh,hb]
    ·simp only [ydJ,yeU,Bool.false_eq_true,if_false,if_true,Bool.false_and]
     rw [(ih _).1];simp [bor,run,hh,hb]
    simp only [ydJ,yeU,Bool.false_eq_true,if_false,if_true,Bool.not_true,Bool.and_false];rw [(ih _).2 _ _ hne];simp [bor,run,hh,hb]
   cases hh:F ⟨t,false⟩<;>cases hb:F ⟨t,true⟩<;>rw [combL,h1,h2,hh,hb]
   ·simp only [ydJ,yeU,Bool.false_eq_true,if_false,if_true,Bool.false_and,ybp]
    rw [(ih _).1];simp [bor,run,hh,hb]
   ·simp only [ydJ,yeU,Bool.false_eq_true,if_false,Bool.not_false,Bool.and_self,if_true,ybp]
    rw [(ih _).2 _ _ hne];simp [bor,run,hh,hb]
   ·simp only [ydJ,yeU,Bool.false_eq_true,if_false,if_true,Bool.false_and,ybp]
    rw [(ih _).1];simp [bor,run,hh,hb]
   simp only [ydJ,yeU,Bool.false_eq_true,if_false,if_true,Bool.not_true,Bool.and_false,ybp];rw [(ih _).2 _ _ hne];simp [bor,run,hh,hb]
structure Ev (α:Type) where
 at_:Bd α
 x:Int
 y:Int
def ycl (keep:Bool→Bool→Bool) (n m:Int):Bool:=keep (decide (0<n)) (decide (0<m))
def sweepF (now inn:Bool) (at_ frm:Bd α):Bd α:=if now && !inn then at_ else frm
def sweepO (now inn:Bool) (at_ frm:Bd α) (out:List (Iv α)):List (Iv α):=if !now&&inn then out++[⟨frm,at_⟩] else out
noncomputable def ybV (keep:Bool→Bool→Bool):List (Ev α)→Int→Int→Bool→Bd α→List (Iv α)→List (Iv α)
 | [],_,_,_,_,out=>out
 | e :: r,n,m,inn,frm,out =>
  if (∃ e' r',r=e' :: r'∧e.at_=e'.at_) then ybV keep r (n+e.x) (m+e.y) inn frm out
  else ybV keep r (n+e.x) (m+e.y) (ycl keep (n+e.x) (m+e.y)) (sweepF (ycl keep (n+e.x) (m+e.y)) inn e.at_ frm) (sweepO (ycl keep (n+e.x) (m+e.y)) inn e.at_ frm out)
noncomputable def ded:List (Ev α)→List (Bd α)
 | []=>[]
 | e :: r=>if (∃ e' r',r=e' :: r'∧e.at_=e'.at_) then ded r else e.at_ :: ded r
noncomputable def cntX (l:List (Ev α)) (x:Bd α):Int:=(l.map (fun e=>if e.at_≤x then e.x else 0)).sum
noncomputable def cntY (l:List (Ev α)) (x:Bd α):Int:=(l.map (fun e=>if e.at_≤x then e.y else 0)).sum
def InOrd (l:List (Ev α)):Prop:=l.Pairwise (fun e e'=>e.at_≤e'.at_)
theorem yfU (l:List (Ev α)) (c:Bd α):c∈ded l↔∃ e∈l,e.at_=c:=by
 induction l with
 | nil=>simp [ded]
 | cons e r ih =>
  unfold ded;split
  ·rename_i h
   obtain⟨e',r',rfl,h⟩:=h;rw [ih];constructor
   ·rintro ⟨d,h1,h2⟩;exact ⟨d,List.mem_cons_of_mem _ h1,h2⟩
   rintro ⟨d,h1,h2⟩;rcases List.mem_cons.1 h1 with rfl|h1
   ·exact ⟨e',List.mem_cons_self,by rw [← h];exact h2⟩
   exact ⟨d,h1,h2⟩
  rw [List.mem_cons,ih];constructor
  ·rintro (rfl|⟨d,h1,h2⟩)
   ·exact ⟨e,List.mem_cons_self,rfl⟩
   exact ⟨d,List.mem_cons_of_mem _ h1,h2⟩
  rintro ⟨d,h1,h2⟩;rcases List.mem_cons.1 h1 with rfl|h1
  ·exact .inl h2.symm
  exact .inr ⟨d,h1,h2⟩
theorem Up.of {l:List (Bd α)} {a:Bd α} (h:Ups l) (h2:∀ c∈l,a<c):Up l a:=by
 cases l with
 | nil=>trivial
 | cons b l=>exact ⟨h2 b List.mem_cons_self,h⟩
theorem ygQ {e:Ev α} {r:List (Ev α)} (h:InOrd (e :: r)) (hn:¬ ∃ e' r',r=e' :: r'∧e.at_=e'.at_):∀ d∈r,e.at_<d.at_:=by
 unfold InOrd at h;rw [List.pairwise_cons] at h;cases r with
 | nil=>simp
 | cons e' r' =>
  intro d hd;have h1:=h.1 e' List.mem_cons_self;have h2:e.at_≠e'.at_:=fun h=>hn ⟨_,_,rfl,h⟩;have h3:=(List.pairwise_cons.1 h.2).1;rcases List.mem_cons.1 hd with rfl|hd
  ·grind
  have:=h3 d hd;grind
theorem ded_ups {l:List (Ev α)} (h:InOrd l):Ups (ded l):=by
 induction l with
 | nil=>trivial
 | cons e r ih =>
  have hr:InOrd r:=(List.pairwise_cons.1 h).2;unfold ded;split
  ·exact ih hr
  rename_i hn;refine Up.of (ih hr) (fun c hc=>?_);obtain⟨d,hd,rfl⟩:=(yfU _ _).1 hc;exact ygQ h hn d hd
theorem yiW {keep:Bool→Bool→Bool} {F:Bd α→Bool} (l:List (Ev α)):∀ n m inn frm out,InOrd l →
  (∀ e∈l,F e.at_=ycl keep (n+cntX l e.at_) (m+cntY l e.at_))→(l=[]→inn=false) →
  (∀ e∈l,(∀ d∈l,d.at_≤e.at_)→F e.at_=false)→ybV keep l n m inn frm out=out++run F (ded l) (if inn then some frm else none):=by
 induction l with
 | nil=>intro n m inn frm out hs hF h0 _;rw [h0 rfl];simp [ybV,ded,run]
 | cons e r ih =>
  intro n m inn frm out hs hF h0 hz0;have hr:InOrd r:=(List.pairwise_cons.1 hs).2;have hle:=(List.pairwise_cons.1 hs).1
  have hlast:∀ d∈r,(∀ c∈r,c.at_≤d.at_)→F d.at_=false:=fun d hd h=>by
   refine hz0 d (List.mem_cons_of_mem _ hd) (fun c hc=>?_);rcases List.mem_cons.1 hc with rfl|hc
   ·exact hle d hd
   exact h c hc
  have hFr:∀ d∈r,F d.at_=ycl keep (n+e.x+cntX r d.at_) (m+e.y+cntY r d.at_):=fun d hd=>by
   rw [hF d (List.mem_cons_of_mem _ hd)];unfold cntX cntY;rw [List.map_cons,List.map_cons,List.sum_cons,List.sum_cons,if_pos (hle d hd),if_pos (hle d hd),Int.add_assoc,Int.add_assoc]
  unfold ybV ded;split
  ·rename_i h
   refine ih _ _ _ _ _ hr hFr ?_ hlast;obtain⟨e',r',h,_⟩:=h;intro h2;rw [h] at h2;exact absurd h2 (by simp)
  rename_i hn;have hst:=ygQ hs hn
  have hz:cntX (e :: r) e.at_=e.x∧cntY (e :: r) e.at_=e.y:=by
   have:∀ d∈r,¬ d.at_≤e.at_:=fun d hd=>by have:=hst d hd;grind
   unfold cntX cntY;rw [List.map_cons,List.map_cons,List.sum_cons,List.sum_cons,if_pos (by grind),if_pos (by grind)]
   have z1:∀ (s:List (Ev α)),(∀ d∈s,¬ d.at_≤e.at_)→(s.map (fun d=>if d.at_≤e.at_ then d.x else 0)).sum=0∧(s.map (fun d=>if d.at_≤e.at_ then d.y else 0)).sum=0:=by
    intro s;induction s with
    | nil=>simp
    | cons d s ihs =>
     intro h;obtain⟨k1,k2⟩:=ihs (fun d hd=>h d (List.mem_cons_of_mem _ hd));rw [List.map_cons,List.map_cons,List.sum_cons,List.sum_cons,if_neg (h d List.mem_cons_self),if_neg (h d List.mem_cons_self),k1,k2];exact ⟨rfl,rfl⟩
   obtain⟨k1,k2⟩:=z1 r this;rw [k1,k2];exact ⟨by omega,by omega⟩
  have hFe:ycl keep (n+e.x) (m+e.y)=F e.at_:=by rw [hF e List.mem_cons_self,hz.1,hz.2]
  rw [hFe,ih _ _ _ _ _ hr hFr ?_ hlast]
  ·cases hf:F e.at_<;>cases inn<;>simp [sweepO,sweepF,run,hf]
  rintro rfl;exact hz0 e List.mem_cons_self (by simp)
def evA (l:List (Iv α)):List (Ev α):=l.flatMap (fun i=>[⟨i.f,1,0⟩,⟨i.l,-1,0⟩])
def evB (l:List (Iv α)):List (Ev α):=l.flatMap (fun i=>[⟨i.f,0,1⟩,⟨i.l,0,-1⟩])
theorem yis {l m:List Int} (h:l.Perm m):l.sum=m.sum:=by
 induction h with
 | nil=>rfl
 | cons x _ ih=>rw [List.sum_cons,List.sum_cons,ih]
 | swap x y l=>rw [List.sum_cons,List.sum_cons,List.sum_cons,List.sum_cons];omega
 | trans _ _ ih1 ih2=>rw [ih1,ih2]
theorem cnt_perm {l l':List (Ev α)} (h:l.Perm l') (x:Bd α):cntX l x=cntX l' x∧cntY l x=cntY l' x:=by
 unfold cntX cntY;exact ⟨yis (h.map _),yis (h.map _)⟩
theorem cnt_app {l l':List (Ev α)} (x:Bd α):cntX (l++l') x=cntX l x+cntX l' x∧cntY (l++l') x=cntY l x+cntY l' x:=by
 unfold cntX cntY;simp
theorem cnt_evA {l:List (Iv α)} (hl:∀ i∈l,i.f<i.l) (x:Bd α):0≤cntX (evA l) x∧cntY (evA l) x=0∧(decide (0<cntX (evA l) x))=hasL l x:=by
 induction l with
 | nil=>simp [evA,cntX,cntY,hasL]
 | cons i l ih =>
  obtain⟨k1,k2,k3⟩:=ih (fun j hj=>hl j (List.mem_cons_of_mem _ hj));have hi:=hl i List.mem_cons_self;have e:cntX (evA (i :: l)) x=(if i.f≤x then 1 else 0)+((if i.l≤x then -1 else 0)+cntX (evA l) x):=by simp [cntX,evA]
  have e2:cntY (evA (i :: l)) x=cntY (evA l) x:=by simp [cntY,evA]
  rw [e,e2,yaE,← k3];by_cases h1:i.f≤x
  ·by_cases h2:i.l≤x
   ·have hn:i.has x=false:=by rw [← Bool.not_eq_true,Iv.hI];grind
    rw [if_pos h1,if_pos h2,hn,Bool.false_or];exact ⟨by omega,k2,by congr 1;simp;omega⟩
   have hn:i.has x=true:=by rw [Iv.hI];grind
   rw [if_pos h1,if_neg h2,hn,Bool.true_or];exact ⟨by omega,k2,by simp;omega⟩
  have h2:¬ i.l≤x:=by grind
  have hn:i.has x=false:=by rw [← Bool.not_eq_true,Iv.hI];grind
  rw [if_neg h1,if_neg h2,hn,Bool.false_or];exact ⟨by omega,k2,by congr 1;simp⟩
theorem cnt_evB {l:List (Iv α)} (hl:∀ i∈l,i.f<i.l) (x:Bd α):0≤cntY (evB l) x∧cntX (evB l) x=0∧(decide (0<cntY (evB l) x))=hasL l x:=by
 induction l with
 | nil=>simp [evB,cntX,cntY,hasL]
 | cons i l ih =>
  obtain⟨k1,k2,k3⟩:=ih (fun j hj=>hl j (List.mem_cons_of_mem _ hj));have hi:=hl i List.mem_cons_self;have e:cntY (evB (i :: l)) x=(if i.f≤x then 1 else 0)+((if i.l≤x then -1 else 0)+cntY (evB l) x):=by simp [cntY,evB]
  have e2:cntX (evB (i :: l)) x=cntX (evB l) x:=by simp [cntX,evB]
  rw [e,e2,yaE,← k3];by_cases h1:i.f≤x
  ·by_cases h2:i.l≤x
   ·have hn:i.has x=false:=by rw [← Bool.not_eq_true,Iv.hI];grind
    rw [if_pos h1,if_pos h2,hn,Bool.false_or];exact ⟨by omega,k2,by congr 1;simp;omega⟩
   have hn:i.has x=true:=by rw [Iv.hI];grind
   rw [if_pos h1,if_neg h2,hn,Bool.true_or];exact ⟨by omega,k2,by simp;omega⟩
  have h2:¬ i.l≤x:=by grind
  have hn:i.has x=false:=by rw [← Bool.not_eq_true,Iv.hI];grind
  rw [if_neg h1,if_neg h2,hn,Bool.false_or];exact ⟨by omega,k2,by congr 1;simp⟩
theorem yje {keep:Bool→Bool→Bool} (h0:keep false false=false) {a b:List (Iv α)} (ha:∀ i∈a,i.f<i.l) (hb:∀ i∈b,i.f<i.l) {l:List (Ev α)} (hp:l.Perm (evA a++evB b)) (hs:InOrd l) (frm:Bd α) :
  Norm (ybV keep l 0 0 false frm [])∧∀ x,hasL (ybV keep l 0 0 false frm []) x=keep (hasL a x) (hasL b x):=by
 have hF:∀ x,keep (hasL a x) (hasL b x)=ycl keep (cntX l x) (cntY l x):=fun x=>by
  have h1:=cnt_perm hp x;have h2:=@cnt_app α _ _ _ _ (evA a) (evB b) x;obtain⟨_,k1,k2⟩:=cnt_evA ha x;obtain⟨_,k3,k4⟩:=cnt_evB hb x;unfold ycl;rw [h1.1,h1.2,h2.1,h2.2,k1,k3,Int.add_zero,Int.zero_add,k2,k4]
 have hlast:∀ x,(∀ d∈l,d.at_≤x)→keep (hasL a x) (hasL b x)=false:=fun x h=>by
  have h1:∀ i∈a,i.has x=false:=fun i hi=>by
   rw [← Bool.not_eq_true,Iv.hI];have:=h ⟨i.l,-1,0⟩ (hp.mem_iff.2 (List.mem_append.2 (.inl (List.mem_flatMap.2 ⟨i,hi,by simp⟩))));dsimp only at this;grind
  have h2:∀ i∈b,i.has x=false:=fun i hi=>by
   rw [← Bool.not_eq_true,Iv.hI];have:=h ⟨i.l,0,-1⟩ (hp.mem_iff.2 (List.mem_append.2 (.inr (List.mem_flatMap.2 ⟨i,hi,by simp⟩))));dsimp only at this;grind
  have h3:hasL a x=false:=by unfold hasL;rw [List.any_eq_false];intro i hi;rw [h1 i hi];simp
  have h4:hasL b x=false:=by unfold hasL;rw [List.any_eq_false];intro i hi;rw [h2 i hi];simp
  rw [h3,h4,h0]
 have e:=yiW (keep:=keep) (F:=fun x=>keep (hasL a x) (hasL b x)) l 0 0 false frm [] hs (fun e _=>by rw [Int.zero_add,Int.zero_add];exact hF _) (fun _=>rfl) (fun e he h=>hlast _ h);rw [if_neg (by simp),List.nil_append] at e;rw [e];refine yiS (ded_ups hs) (fun x y h=>?_) (fun x h=>?_) (fun x h=>?_)
 ·have h':∀ e∈l,(e.at_≤x↔e.at_≤y):=fun e he=>h _ ((yfU _ _).2 ⟨e,he,rfl⟩)
  have:cntX l x=cntX l y∧cntY l x=cntY l y:=by
   unfold cntX cntY;constructor<;>congr 1<;>refine List.map_congr_left (fun e he=>?_)<;>by_cases k:e.at_≤x
   all_goals first|rw [if_pos k,if_pos ((h' e he).1 k)]|rw [if_neg k,if_neg (fun k'=>k ((h' e he).2 k'))]
  rw [hF,hF,this.1,this.2]
 ·have h':∀ e∈l,¬ e.at_≤x:=fun e he=>by have:=h _ ((yfU _ _).2 ⟨e,he,rfl⟩);grind
  have:cntX l x=0∧cntY l x=0:=by
   unfold cntX cntY
   have z:l.map (fun e=>if e.at_≤x then e.x else 0)=l.map (fun _=>0)∧l.map (fun e=>if e.at_≤x then e.y else 0)=l.map (fun _=>0):=by
    constructor<;>refine List.map_congr_left (fun e he=>?_)<;>rw [if_neg (h' e he)]
   rw [z.1,z.2];have:∀ s:List (Ev α),(s.map (fun _=>(0:Int))).sum=0:=fun s=>by induction s<;>simp_all
   exact ⟨this _,this _⟩
  rw [hF,this.1,this.2];unfold ycl
  simpa using h0
 exact hlast x (fun d hd=>h _ ((yfU _ _).2 ⟨d,hd,rfl⟩))
noncomputable def holds (l:List (Iv α)) (t:α):Bool:=l.any (fun i=>decide (i.f≤⟨t,false⟩∧(⟨t,true⟩:Bd α)≤i.l))
noncomputable def yjl (l:List (Iv α)) (t n:α):Bool:=l.any (fun i=>decide (i.f.pt≤t∧n≤i.l.pt))
theorem ybs (l:List (Iv α)) (t:α):holds l t=hasL l ⟨t,false⟩:=by
 unfold holds hasL;refine congrArg (fun f=>l.any f) (funext fun i=>?_);unfold Iv.has;congr 1
 rw [Bd.le_def,Bd.le_def,Bd.lt_def];cases i.f.beh<;>cases i.l.beh<;>simp
theorem yhh {l:List (Iv α)} {t n:α} (h:t<n) (hb:∀ i∈l,i.l.pt≤t∨n≤i.l.pt):yjl l t n=hasL l ⟨t,true⟩:=by
 unfold yjl hasL;refine Bool.eq_iff_iff.2 ?_;rw [List.any_eq_true,List.any_eq_true];constructor
 ·rintro ⟨i,hi,h2⟩
  refine ⟨i,hi,?_⟩;rw [decide_eq_true_iff] at h2;rw [Iv.hI,Bd.le_def,Bd.lt_def];grind
 rintro ⟨i,hi,h2⟩;refine ⟨i,hi,?_⟩;have:=hb i hi;rw [decide_eq_true_iff];rw [Iv.hI,Bd.le_def,Bd.lt_def] at h2;grind
theorem yeh {l:List α} {c:Bd α}:c∈bor l↔c.pt∈l:=by
 induction l with
 | nil=>simp [bor]
 | cons t r ih =>
  simp only [bor,List.mem_cons,ih];constructor
  ·rintro (rfl|rfl|h)
   ·exact .inl rfl
   ·exact .inl rfl
   exact .inr h
  rintro (h|h)
  ·cases hb:c.beh
   ·exact .inl (Bd.ext h hb)
   exact .inr (.inl (Bd.ext h hb))
  exact .inr (.inr h)
theorem bor_ups {l:List α} (h:l.Pairwise (· < ·)):Ups (bor l):=by
 induction l with
 | nil=>trivial
 | cons t r ih =>
  obtain⟨h1,h2⟩:=List.pairwise_cons.1 h;refine ⟨by rw [Bd.lt_def];exact .inr ⟨rfl,rfl,rfl⟩,Up.of (ih h2) (fun c hc=>?_)⟩;rw [Bd.lt_def];exact .inl (h1 _ (yeh.1 hc))
structure EndsOf (l:List α) (a:List (Iv α)):Prop where
 ord:l.Pairwise (· < ·)
 f:∀ i∈a,i.f.pt∈l
 l:∀ i∈a,i.l.pt∈l
theorem EndsOf.same {l:List α} {a:List (Iv α)} (h:EndsOf l a) {x y:Bd α} (hj:∀ c∈bor l,c≤x↔c≤y):hasL a x=hasL a y:=by
 unfold hasL;refine Bool.eq_iff_iff.2 ?_;rw [List.any_eq_true,List.any_eq_true];constructor<;>rintro ⟨i,hi,h2⟩<;>refine ⟨i,hi,?_⟩<;>rw [Iv.hI] at * <;> have h3:=hj i.f (yeh.2 (h.f i hi))<;>have h4:=hj i.l (yeh.2 (h.l i hi))<;>grind
theorem EndsOf.below {l:List α} {a:List (Iv α)} (h:EndsOf l a) {x:Bd α} (hx:∀ c∈bor l,x<c):hasL a x=false:=by
 unfold hasL;rw [List.any_eq_false];intro i hi;rw [Iv.hI];have:=hx i.f (yeh.2 (h.f i hi));grind
theorem EndsOf.above {l:List α} {a:List (Iv α)} (h:EndsOf l a) {x:Bd α} (hx:∀ c∈bor l,c≤x):hasL a x=false:=by
 unfold hasL;rw [List.any_eq_false];intro i hi;rw [Iv.hI];have:=hx i.l (yeh.2 (h.l i hi));grind
theorem asks_of {d:Bool→Bool→Bool} (h0:d false false=false) {a b:List (Iv α)} {all:List α} (ha:EndsOf all a) (hb:EndsOf all b) :
  ∀ (l pre:List α),pre++l=all→Asks (fun x=>d (hasL a x) (hasL b x)) (fun t=>d (holds a t) (holds b t)) (fun t n=>d (yjl a t n) (yjl b t n)) l:=by
 intro l;induction l with
 | nil=>intro pre _;trivial
 | cons t r ih =>
  intro pre hp;have hord:=ha.ord;rw [← hp,List.pairwise_append] at hord;obtain⟨o1,o2,o3⟩:=hord;obtain⟨o4,o5⟩:=List.pairwise_cons.1 o2;cases r with
  | nil =>
   refine ⟨by dsimp only;rw [ybs,ybs],?_⟩
   have:∀ c∈bor all,c≤(⟨t,true⟩:Bd α):=fun c hc=>by
    have:=yeh.1 hc;rw [← hp,List.mem_append,List.mem_singleton] at this;rw [Bd.le_def];rcases this with h|h
    ·exact .inl (o3 _ h _ (by simp))
    exact .inr ⟨h,fun _=>rfl⟩
   dsimp only;rw [ha.above this,hb.above this,h0]
  | cons n r =>
   have htn:t<n:=o4 n (by simp)
   have hbtw:∀ c∈all,c≤t∨n≤c:=fun c hc=>by
    rw [← hp,List.mem_append,List.mem_cons,List.mem_cons] at hc;rcases hc with h|h|h|h
    ·have:=o3 _ h t (by simp);grind
    ·grind
    ·grind
    have:=(List.pairwise_cons.1 o5).1 c h;grind
   refine ⟨by dsimp only;rw [ybs,ybs],?_,ih (pre++[t]) (by simp [hp])⟩;dsimp only;rw [yhh htn (fun i hi=>hbtw _ (ha.l i hi)),yhh htn (fun i hi=>hbtw _ (hb.l i hi))]
noncomputable def cells (d:Bool→Bool→Bool) (a b:List (Iv α)) (all:List α):List (Iv α) :=
 combL (fun t=>d (holds a t) (holds b t)) (fun t n=>d (yjl a t n) (yjl b t n)) all false []
theorem ygM {d:Bool→Bool→Bool} (h0:d false false=false) {a b:List (Iv α)} {all:List α} (ha:EndsOf all a) (hb:EndsOf all b) :
  Norm (cells d a b all)∧∀ x,hasL (cells d a b all) x=d (hasL a x) (hasL b x):=by
 unfold cells;rw [(combL_run all (asks_of h0 ha hb all [] rfl) []).1,List.nil_append];refine yiS (bor_ups ha.ord) (fun x y h=>?_) (fun x h=>?_) (fun x h=>?_)
 ·rw [ha.same h,hb.same h]
 ·rw [ha.below h,hb.below h,h0]
 rw [ha.above h,hb.above h,h0]
end
end Go.Proofs.YtpgffjjpiafhpaaGreatDoor
