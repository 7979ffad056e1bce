/- Parts of a proof: Pn Sp Ti Tj. -/
import Derived.Test.YtejegogbhpmgfaaGreatDoorG31
import Derived.Test.YtejegogbhpmgfaaGreatDoorG32
import Derived.Test.YtejegogbhpmgfaaGreatDoorG30
import Derived.Test.YtejegogbhpmgfaaGreatDoorG11
import Derived.Test.YtejegogbhpmgfaaGreatDoorG13
set_option linter.unusedVariables false
set_option linter.unusedSimpArgs false
set_option maxRecDepth 100000
set_option maxHeartbeats 8000000
namespace Go.Proofs.YtejegogbhpmgfaaGreatDoor
open Go.RowKit Tryz
noncomputable def yax (op:Int) (a b:List (Iv K)):List (Iv K):=cells (decV op) a b (ybf (ptsL (a++b)))
theorem ydJ {l:List (Iv K)} {x:K}:x∈ptsL l↔∃ i∈l,x=i.f.pt∨x=i.l.pt:=by
 unfold ptsL;rw [List.mem_flatMap];simp
theorem ycX {l a:List (Iv K)} (h:∀ i∈a,i∈l):EndsOf (ybf (ptsL l)) a :=
 ⟨ydz _,fun i hi=>ybC.2 (ydJ.2 ⟨i,h i hi,.inl rfl⟩),fun i hi=>ybC.2 (ydJ.2 ⟨i,h i hi,.inr rfl⟩)⟩
theorem ybw (op:Int) (a b:List (Iv K)):Norm (yax op a b) :=
 (yha (ycR op) (ycX (l:=a++b) (fun i hi=>List.mem_append_left _ hi)) (ycX (l:=a++b) (fun i hi=>List.mem_append_right _ hi))).1
theorem ycL (op:Int) (a b:List (Iv K)) (x:Bd K):hasL (yax op a b) x=decV op (hasL a x) (hasL b x) :=
 (yha (ycR op) (ycX (l:=a++b) (fun i hi=>List.mem_append_left _ hi)) (ycX (l:=a++b) (fun i hi=>List.mem_append_right _ hi))).2 x
def PtsIn (S:List K) (l:List (Iv K)):Prop:=∀ i∈l,i.f.pt∈S∧i.l.pt∈S
theorem PtsIn.mono {S T:List K} {l:List (Iv K)} (h:PtsIn S l) (hT:∀ x∈S,x∈T):PtsIn T l:=fun i hi=>⟨hT _ (h i hi).1,hT _ (h i hi).2⟩
theorem PtsIn.nil (S:List K):PtsIn S []:=fun _ h=>by cases h
theorem PtsIn.self (l:List (Iv K)):PtsIn (ptsL l) l:=fun i hi=>⟨ydJ.2 ⟨i,hi,.inl rfl⟩,ydJ.2 ⟨i,hi,.inr rfl⟩⟩
theorem PtsIn.app {S:List K} {l m:List (Iv K)} (h:PtsIn S l) (k:PtsIn S m):PtsIn S (l++m):=fun i hi=>by
 rcases List.mem_append.1 hi with hi|hi
 ·exact h i hi
 exact k i hi
theorem PtsIn.sub {S:List K} {l m:List (Iv K)} (h:PtsIn S l) (hm:∀ i∈m,i∈l):PtsIn S m:=fun i hi=>h i (hm i hi)
theorem ygz {S:List K} {here op:Bool} {t:K} {out:List (Iv K)} (ht:t∈S) (h:PtsIn S out):PtsIn S (ybh here op t out):=by
 unfold ybh;cases op
 ·cases here
  ·exact h
  exact h.app (fun i hi=>by simp at hi;subst hi;exact ⟨ht,ht⟩)
 rw [if_pos rfl];rcases List.eq_nil_or_concat out with rfl|⟨r,i,rfl⟩
 ·exact h
 rw [List.concat_eq_append] at h ⊢;rw [yaN];intro j hj;rcases List.mem_append.1 hj with hj|hj
 ·exact h j (List.mem_append_left _ hj)
 simp at hj;subst hj;exact ⟨(h i (by simp)).1,ht⟩
theorem combB_pts {S:List K} {here btw:Bool} {t n:K} {out:List (Iv K)} (ht:t∈S) (hn:n∈S) (h:PtsIn S out):PtsIn S (ydd here btw t n out):=by
 unfold ydd;split
 ·exact h.app (fun i hi=>by simp at hi;subst hi;exact ⟨ht,hn⟩)
 exact h
theorem ygF {S:List K} {H:K→Bool} {P:K→K→Bool}:∀ (l:List K) (op:Bool) (out:List (Iv K)),(∀ x∈l,x∈S)→PtsIn S out→PtsIn S (combL H P l op out)
 | [],_,_,_,h=>h
 | [t],op,out,hl,h=>ygz (hl t (by simp)) h
 | t :: n :: r,op,out,hl,h=>ygF (n :: r) _ _ (fun x hx=>hl x (by simp at hx ⊢;exact .inr hx)) (combB_pts (hl t (by simp)) (hl n (by simp)) (ygz (hl t (by simp)) h))
theorem combK_pts {S:List K} {op:Int} {a b:List (Iv K)} (ha:PtsIn S a) (hb:PtsIn S b):PtsIn S (yax op a b):=by
 refine ygF _ _ _ (fun x hx=>?_) (PtsIn.nil S);obtain⟨i,hi,h⟩:=ydJ.1 (ybC.1 hx);have:=ha.app hb i hi;rcases h with rfl|rfl
 ·exact this.1
 exact this.2
theorem NormF.pair {l:List (Iv K)}:∀ {b:Bd K},NormF l b→(∀ i∈l,b<i.f)∧l.Pairwise (fun i j=>i.l<j.f):=by
 induction l with
 | nil=>intro b _;exact ⟨by simp,List.Pairwise.nil⟩
 | cons i l ih =>
  intro b h;obtain⟨h1,h2,h3⟩:=h;obtain⟨k1,k2⟩:=ih h3;refine ⟨fun j hj=>?_,List.pairwise_cons.2 ⟨k1,k2⟩⟩;rcases List.mem_cons.1 hj with rfl|hj
  ·exact h1
  have:=k1 j hj;grind
theorem NormF.val {l:List (Iv K)}:∀ {b:Bd K},NormF l b→∀ i∈l,i.f<i.l:=by
 induction l with
 | nil=>intro b _ i hi;cases hi
 | cons j l ih =>
  intro b h i hi;rcases List.mem_cons.1 hi with rfl|hi
  ·exact h.2.1
  exact ih h.2.2 i hi
theorem Norm.val {l:List (Iv K)} (h:Norm l):∀ i∈l,i.f<i.l:=by
 cases l with
 | nil=>intro i hi;cases hi
 | cons j l =>
  intro i hi;rcases List.mem_cons.1 hi with rfl|hi
  ·exact h.1
  exact h.2.val i hi
theorem Norm.pair {l:List (Iv K)} (h:Norm l):l.Pairwise (fun i j=>i.l<j.f):=by
 cases l with
 | nil=>exact List.Pairwise.nil
 | cons j l=>exact List.pairwise_cons.2 ⟨h.2.pair.1,h.2.pair.2⟩
theorem NormF.of {l:List (Iv K)}:∀ {b:Bd K},(∀ i∈l,b<i.f)→(∀ i∈l,i.f<i.l)→l.Pairwise (fun i j=>i.l<j.f)→NormF l b:=by
 induction l with
 | nil=>intro b _ _ _;trivial
 | cons i l ih =>
  intro b h1 h2 h3;obtain⟨h4,h5⟩:=List.pairwise_cons.1 h3;exact ⟨h1 i (by simp),h2 i (by simp),ih h4 (fun j hj=>h2 j (by simp [hj])) h5⟩
theorem Norm.of {l:List (Iv K)} (h2:∀ i∈l,i.f<i.l) (h3:l.Pairwise (fun i j=>i.l<j.f)):Norm l:=by
 cases l with
 | nil=>trivial
 | cons i l =>
  obtain⟨h4,h5⟩:=List.pairwise_cons.1 h3;exact ⟨h2 i (by simp),NormF.of h4 (fun j hj=>h2 j (by simp [hj])) h5⟩
theorem yfS {α:Type}:∀ {l m:List α},l.Nodup→(∀ x∈l,x∈m)→l.length≤m.length:=by
 intro l;induction l with
 | nil=>intro m _ _;simp
 | cons x l ih =>
  intro m h hs;obtain⟨h1,h2⟩:=List.nodup_cons.1 h;obtain⟨s,t,rfl⟩:=List.append_of_mem (hs x (by simp))
  have:=ih (m:=s++t) h2 (fun y hy=>by
   have h3:=hs y (by simp [hy]);rw [List.mem_append,List.mem_cons] at h3;rw [List.mem_append];rcases h3 with h3|h3|h3
   ·exact .inl h3
   ·subst h3;exact absurd hy h1
   exact .inr h3)
  simp at this ⊢;omega
theorem Norm.len {S:List K} {l:List (Iv K)} (h:Norm l) (hp:PtsIn S l):l.length≤2*S.length:=by
 have hv:=h.val
 have hn:(l.map Iv.f).Nodup:=by
  unfold List.Nodup;rw [List.pairwise_map];refine h.pair.imp_of_mem (fun {i j} hi hj hij he=>?_);have:=hv i hi;rw [he] at this;grind
 have hs:∀ x∈l.map Iv.f,x∈S.flatMap (fun s=>[(⟨s,false⟩:Bd K),⟨s,true⟩]):=fun x hx=>by
  obtain⟨i,hi,rfl⟩:=List.mem_map.1 hx;rw [List.mem_flatMap];refine ⟨_,(hp i hi).1,?_⟩;rcases hb:i.f with ⟨p,b⟩;cases b<;>simp
 have:=yfS hn hs
 have hl:(S.flatMap (fun s=>[(⟨s,false⟩:Bd K),⟨s,true⟩])).length=2*S.length:=by
  clear this hs hn hv hp h;induction S with
  | nil=>rfl
  | cons s S ih=>rw [List.flatMap_cons,List.length_append,ih];simp;omega
 rw [List.length_map,hl] at this;exact this
structure Per (S:List K) (l:List (Iv K)):Prop where
 norm:Norm l
 pts:PtsIn S l
theorem Per.len {S:List K} {l:List (Iv K)} (h:Per S l):l.length≤2*S.length:=h.norm.len h.pts
theorem Per.nil (S:List K):Per S []:=⟨trivial,PtsIn.nil S⟩
theorem ycT {S:List K} (op:Int) {a b:List (Iv K)} (ha:PtsIn S a) (hb:PtsIn S b):Per S (yax op a b):=⟨ybw op a b,combK_pts ha hb⟩
theorem ygj {op:Int} {a b l:List (Iv K)} (hl:Norm l) (h:∀ x,hasL l x=decV op (hasL a x) (hasL b x)):yax op a b=l :=
 yeF (ybw op a b) hl (fun x=>by rw [ycL,h])
noncomputable abbrev ybE (l:List (Iv K)):List (Iv K):=yax 1 l []
theorem ygI (l:List (Iv K)) (x:Bd K):hasL (ybE l) x=hasL l x:=by rw [ycL];simp [decV,yeg]
theorem hasL_ne {l:List (Iv K)} (h:Norm l):l=[]↔∀ x,hasL l x=false:=by
 constructor
 ·rintro rfl x;rfl
 exact fun hx=>yeF h (m:=[]) trivial (fun x=>by rw [hx];rfl)
open Classical in
noncomputable def ofQ (p r:Rat) (neg:Bool):Qn:=if h:∃ q:Rat,0≤q∧q*q=r then ⟨if neg then p-h.choose else p+h.choose,0,false⟩ else ⟨p,r,neg⟩
theorem root_eq {a b:Rat} (ha:0≤a) (hb:0≤b) (h:a*a=b*b):a=b:=by
 have h1:(a-b)*(a+b)=0:=by grind
 rcases Rat.mul_eq_zero.1 h1 with h2|h2<;>grind
theorem yie {p r q:Rat} {neg:Bool} (h:0≤q∧q*q=r):ofQ p r neg=⟨if neg then p-q else p+q,0,false⟩:=by
 have hx:∃ q:Rat,0≤q∧q*q=r:=⟨q,h⟩;unfold ofQ;rw [dif_pos hx];have:=hx.choose_spec;rw [root_eq h.1 this.1 (by rw [h.2,this.2])]
theorem ofQ_no {p r:Rat} {neg:Bool} (h:∀ q:Rat,q*q≠r):ofQ p r neg=⟨p,r,neg⟩:=by
 unfold ofQ;rw [dif_neg];rintro ⟨q,_,hq⟩;exact h q hq
theorem ydk {q r:Rat} (h:q*q=r):∃ q':Rat,0≤q'∧q'*q'=r:=by
 rcases Rat.le_total (a:=0) (b:=q) with h1|h1
 ·exact ⟨q,h1,h⟩
 exact ⟨-q,by grind,by grind⟩
theorem ofQ_ok {p r:Rat} {neg:Bool} (hr:0≤r):(ofQ p r neg).Ok:=by
 by_cases h:∃ q:Rat,q*q=r
 ·obtain⟨q,hq⟩:=h
  obtain⟨q',h1,h2⟩:=ydk hq;rw [yie ⟨h1,h2⟩];exact ⟨by show (0:Rat)≤0;grind,fun _=>rfl,fun h=>absurd rfl h⟩
 have h':∀ q:Rat,q*q≠r:=fun q hq=>h ⟨q,hq⟩;rw [ofQ_no h'];refine ⟨hr,fun h0=>?_,fun _=>h'⟩;have h0:r=0:=h0;exact absurd (show (0:Rat)*0=r by rw [h0];grind) (h' 0)
theorem ygg {k:Nat} {q r:Rat} (hr:FitQ k r) (h:q*q=r):FitQ k q:=by
 have hp:=yek q;rw [h] at hp;constructor
 ·have h1:=Fit_iff.1 hr.1
  rw [hp.1,Int.natAbs_mul] at h1;exact Fit_iff.2 (Nat.lt_of_le_of_lt (Nat.le_mul_self _) h1)
 have h1:=Fit_iff.1 hr.2;rw [hp.2] at h1;refine Fit_iff.2 (Nat.lt_of_le_of_lt ?_ h1);have:=Nat.le_mul_self q.den;show q.den≤q.den*q.den
 exact this
theorem fit0:FitQ 1 0:=by refine ⟨?_,?_⟩<;>rw [Fit_iff]<;>decide
theorem ofQ_fit {k l:Nat} {p r:Rat} {neg:Bool} (hp:FitQ k p) (hr:FitQ l r):FitR (k+l+1) (ofQ p r neg):=by
 by_cases h:∃ q:Rat,q*q=r
 ·obtain⟨q,hq⟩:=h
  obtain⟨q',h1,h2⟩:=ydk hq;rw [yie ⟨h1,h2⟩];refine ⟨?_,fit0.mono (by omega)⟩;cases neg
  ·exact hp.add (ygg hr h2)
  exact hp.sub (ygg hr h2)
 rw [ofQ_no (fun q hq=>h ⟨q,hq⟩)];exact ⟨hp.mono (by omega),hr.mono (by omega)⟩
theorem qv_plain (p:Rat):qv ⟨p,0,false⟩ = .agg #[.bool (sgB p.num),.string (mgS p.num),.bool false,.string (dnS p.den),.bool false,.string ⟨#[]⟩,.bool false,.string ⟨#[]⟩,.bool false]:=by
 unfold qv;show Value.agg #[.bool (sgB p.num),.string (mgS p.num),.bool false,.string (dnS p.den),.bool (sgB 0),.string (mgS 0),.bool false,.string (dnS 1),.bool false]=_
 rw [yaX.2 rfl,ycB rfl];rfl
theorem yey (a b c d:Value):prog.built 36 [(0,.agg #[a,b,c,d])]=some #[a,b,c,d,.bool false,.string ⟨#[]⟩,.bool false,.string ⟨#[]⟩,.bool false]:=by kernel_rfl
theorem yic (a b c d e f g h:Value) (i:Bool):prog.built 36 [(0,.agg #[a,b,c,d]),(1,.agg #[e,f,g,h]),(2,.bool i)]=some #[a,b,c,d,e,f,g,h,.bool i]:=by kernel_rfl
theorem fof_c (p r:Rat) (neg:Bool) (hp:FitQ 1000000 p) (hr:FitQ 1000000 r) (w:World) :
  Calls prog 101 #[rv p,rv r,.bool neg] w fun e w'=>e = .returned (qv (ofQ p r neg))∧Keep [] w w':=by
 have hex:∃ q ok,QRoot r q ok∧∀ w,Calls prog 142 #[rv r] w fun e w'=>e = .returned (.tuple #[rv q,.bool ok])∧Keep [] w w':=by
  by_cases h:∃ q:Rat,q*q=r
  ·obtain⟨q,hq⟩:=h
   obtain⟨q',h1,h2⟩:=ydk hq;refine ⟨q',true,⟨fun _=>⟨h1,h2⟩,fun h=>(by cases h)⟩,fun w=>(yhC r (hr.mono (by decide)) w).mono ?_⟩;rintro e w' ⟨q2,ok,rfl,hq2,hk⟩;cases ok with
   | true=>rw [root_eq h1 (hq2.1 rfl).1 (by rw [h2,(hq2.1 rfl).2])];exact ⟨rfl,hk⟩
   | false=>exact absurd h2 ((hq2.2 rfl).2 q')
  refine ⟨0,false,⟨fun h=>(by cases h),fun _=>⟨rfl,fun q hq=>h ⟨q,hq⟩⟩⟩,fun w=>(yhC r (hr.mono (by decide)) w).mono ?_⟩;rintro e w' ⟨q2,ok,rfl,hq2,hk⟩;cases ok with
  | true=>exact absurd ⟨q2,(hq2.1 rfl).2⟩ h
  | false=>rw [(hq2.2 rfl).1];exact ⟨rfl,hk⟩
 obtain⟨q,ok,hq,HR⟩:=hex;have HR:=jX HR;cases ok with
 | true =>
  have h2:=(hq.1 rfl);rw [yie h2,qv_plain];have hfq:=ygg hr h2.2;cases neg with
  | true =>
   have HS:=jX (yin p q (hp.mono (by decide)) (hfq.mono (by decide)));rw [if_pos rfl];clear hq h2 hfq hp hr;unfold rv at *;generalize sgB (p-q).num=n1 at *;generalize mgS (p-q).num=s1 at *;generalize dnS (p-q).den=e1 at *;generalize sgB (p).num=p1 at *;generalize mgS (p).num=p2 at *;generalize dnS (p).den=p3 at *;generalize sgB (r).num=r1 at *;generalize mgS (r).num=r2 at *;generalize dnS (r).den=r3 at *;generalize sgB (q).num=q1 at *;generalize mgS (q).num=q2 at *;generalize dnS (q).den=q3 at *;go_enter func101,ntmps101
   go_wp2_with fail;obtain⟨W,ga,gb,gc,hW,ega,egb,egc,Bga,Bgb,Bgc,hga,hgb,hgc,hgW,HkW⟩:=al3h w (.cells #[.bool p1,.string p2,.bool false,.string p3] 34) (.cells #[.bool r1,.string r2,.bool false,.string r3] 34) (.cells #[.bool false,.string ⟨#[]⟩,.bool false,.string ⟨#[]⟩,.bool false,.string ⟨#[]⟩,.bool false,.string ⟨#[]⟩,.bool false] 36);rw [← hW];try rw [egc]
   try rw [egb]
   try rw [ega]
   clear hW ega egb egc;obtain⟨pgb,fgb,lgb⟩:=jQ Bgb;go_wp2_with fail;refine (HR.out _).mono ?_;rintro e w1 ⟨rfl,hk_w1⟩;dsimp only;clear pgb fgb lgb HR;replace Bga:=jH hk_w1 Bga;replace Bgb:=jH hk_w1 Bgb;replace Bgc:=jH hk_w1 Bgc;replace HkW:=jX (HkW.out.tz hk_w1);clear hk_w1;obtain⟨pga,fga,lga⟩:=jQ Bga;obtain⟨pgb,fgb,lgb⟩:=jQ Bgb;go_wp2_with fail;refine (HS.out _).mono ?_;rintro e w2 ⟨rfl,hk2⟩;dsimp only;have hk_w2:=(Keep.alloc [] w1 (.cells #[.bool q1,.string q2,.bool false,.string q3] 34)).tz hk2;clear hk2 pga fga lga pgb fgb lgb HS;replace Bga:=jH hk_w2 Bga;replace Bgb:=jH hk_w2 Bgb;replace Bgc:=jH hk_w2 Bgc;replace HkW:=jX (HkW.out.tz hk_w2);clear hk_w2;obtain⟨pgc,fgc,lgc⟩:=jQ Bgc;have hbd:=fun w=>run_build (P:=prog) w 36 #[(0,.agg #[.bool n1,.string s1,.bool false,.string e1])] _ (yey _ _ _ _);go_wp2_with fail;refine bodyPost_ret (v:=.agg #[.bool n1,.string s1,.bool false,.string e1,.bool false,.string ⟨#[]⟩,.bool false,.string ⟨#[]⟩,.bool false]) ?_ rfl ⟨rfl,by repeat (first|(with_reducible exact HkW.out)|(refine Keep.sP ?_ _ _ _ (by omega))|(refine Keep.aP ?_ _)|(refine Keep.dP ?_))⟩;rw [yah rfl];go_simp
  | false =>
   have HS:=jX (radd_c p q (hp.mono (by decide)) (hfq.mono (by decide)));rw [if_neg (by decide)];clear hq h2 hfq hp hr;unfold rv at *;generalize sgB (p+q).num=n1 at *;generalize mgS (p+q).num=s1 at *;generalize dnS (p+q).den=e1 at *;generalize sgB (p).num=p1 at *;generalize mgS (p).num=p2 at *;generalize dnS (p).den=p3 at *;generalize sgB (r).num=r1 at *;generalize mgS (r).num=r2 at *;generalize dnS (r).den=r3 at *;generalize sgB (q).num=q1 at *;generalize mgS (q).num=q2 at *;generalize dnS (q).den=q3 at *;go_enter func101,ntmps101
   go_wp2_with fail;obtain⟨W,ga,gb,gc,hW,ega,egb,egc,Bga,Bgb,Bgc,hga,hgb,hgc,hgW,HkW⟩:=al3h w (.cells #[.bool p1,.string p2,.bool false,.string p3] 34) (.cells #[.bool r1,.string r2,.bool false,.string r3] 34) (.cells #[.bool false,.string ⟨#[]⟩,.bool false,.string ⟨#[]⟩,.bool false,.string ⟨#[]⟩,.bool false,.string ⟨#[]⟩,.bool false] 36);rw [← hW];try rw [egc]
   try rw [egb]
   try rw [ega]
   clear hW ega egb egc;obtain⟨pgb,fgb,lgb⟩:=jQ Bgb;go_wp2_with fail;refine (HR.out _).mono ?_;rintro e w1 ⟨rfl,hk_w1⟩;dsimp only;clear pgb fgb lgb HR;replace Bga:=jH hk_w1 Bga;replace Bgb:=jH hk_w1 Bgb;replace Bgc:=jH hk_w1 Bgc;replace HkW:=jX (HkW.out.tz hk_w1);clear hk_w1;obtain⟨pga,fga,lga⟩:=jQ Bga;obtain⟨pgb,fgb,lgb⟩:=jQ Bgb;go_wp2_with fail;refine (HS.out _).mono ?_;rintro e w2 ⟨rfl,hk2⟩;dsimp only;have hk_w2:=(Keep.alloc [] w1 (.cells #[.bool q1,.string q2,.bool false,.string q3] 34)).tz hk2;clear hk2 pga fga lga pgb fgb lgb HS;replace Bga:=jH hk_w2 Bga;replace Bgb:=jH hk_w2 Bgb;replace Bgc:=jH hk_w2 Bgc;replace HkW:=jX (HkW.out.tz hk_w2);clear hk_w2;obtain⟨pgc,fgc,lgc⟩:=jQ Bgc;have hbd:=fun w=>run_build (P:=prog) w 36 #[(0,.agg #[.bool n1,.string s1,.bool false,.string e1])] _ (yey _ _ _ _);go_wp2_with fail;refine bodyPost_ret (v:=.agg #[.bool n1,.string s1,.bool false,.string e1,.bool false,.string ⟨#[]⟩,.bool false,.string ⟨#[]⟩,.bool false]) ?_ rfl ⟨rfl,by repeat (first|(with_reducible exact HkW.out)|(refine Keep.sP ?_ _ _ _ (by omega))|(refine Keep.aP ?_ _)|(refine Keep.dP ?_))⟩;rw [yah rfl];go_simp
 | false =>
  rw [ofQ_no (hq.2 rfl).2];unfold qv;clear hq hp hr;unfold rv at *;generalize sgB (q).num=q1 at *;generalize mgS (q).num=q2 at *;generalize dnS (q).den=q3 at *;dsimp only;generalize sgB (p).num=p1 at *;generalize mgS (p).num=p2 at *;generalize dnS (p).den=p3 at *;generalize sgB (r).num=r1 at *;generalize mgS (r).num=r2 at *;generalize dnS (r).den=r3 at *;go_enter func101,ntmps101
  go_wp2_with fail;obtain⟨W,ga,gb,gc,hW,ega,egb,egc,Bga,Bgb,Bgc,hga,hgb,hgc,hgW,HkW⟩:=al3h w (.cells #[.bool p1,.string p2,.bool false,.string p3] 34) (.cells #[.bool r1,.string r2,.bool false,.string r3] 34) (.cells #[.bool false,.string ⟨#[]⟩,.bool false,.string ⟨#[]⟩,.bool false,.string ⟨#[]⟩,.bool false,.string ⟨#[]⟩,.bool false] 36);rw [← hW];try rw [egc]
  try rw [egb]
  try rw [ega]
  clear hW ega egb egc;obtain⟨pgb,fgb,lgb⟩:=jQ Bgb;go_wp2_with fail;refine (HR.out _).mono ?_;rintro e w1 ⟨rfl,hk_w1⟩;dsimp only;clear pgb fgb lgb HR;replace Bga:=jH hk_w1 Bga;replace Bgb:=jH hk_w1 Bgb;replace Bgc:=jH hk_w1 Bgc;replace HkW:=jX (HkW.out.tz hk_w1);clear hk_w1;go_upto_region 6 with (fail)
  obtain⟨u2,gd,e1,e2,bgd,_,_,hk2⟩:=al1 w1 (.cells #[.bool q1,.string q2,.bool false,.string q3] 34);rw [← e1];clear e1;replace Bga:=jH hk2 Bga;replace Bgb:=jH hk2 Bgb;replace Bgc:=jH hk2 Bgc;replace HkW:=jX (HkW.out.tz hk2);clear hk2;obtain⟨pga,fga,lga⟩:=jQ Bga;obtain⟨pgb,fgb,lgb⟩:=jQ Bgb;obtain⟨pgc,fgc,lgc⟩:=jQ Bgc;have hbd:=fun w=>run_build (P:=prog) w 36 #[(0,.agg #[.bool p1,.string p2,.bool false,.string p3]),(1,.agg #[.bool r1,.string r2,.bool false,.string r3]),(2,.bool neg)] _ (yic _ _ _ _ _ _ _ _ _);go_wp2_with fail;refine bodyPost_ret (v:=.agg #[.bool p1,.string p2,.bool false,.string p3,.bool r1,.string r2,.bool false,.string r3,.bool neg]) ?_ rfl ⟨rfl,by repeat (first|(with_reducible exact HkW.out)|(refine Keep.sP ?_ _ _ _ (by omega))|(refine Keep.aP ?_ _)|(refine Keep.dP ?_))⟩;rw [yah rfl];go_simp
structure InsA where
 P:Nat
 D:Nat
 R:Nat
 E:Nat
 neg:Bool
 hP:P≤255
 hD:D≤255
 hR:R≤255
 hE:E≤255
def InsA.v (a:InsA):Value:=.agg #[.int .u8 a.P,.int .u8 a.D,.int .u8 a.R,.int .u8 a.E,.bool a.neg]
def InsA.p (a:InsA):Rat:=Rat.divInt ((a.P:Int) % 64) (1+(a.D:Int) % 4)
def InsA.r (a:InsA):Rat:=Rat.divInt ((a.R:Int) % 12) (1+(a.E:Int) % 3)
theorem ygD {a b:Int} (hb:0<b) (ha:a.natAbs<256) (hb2:b.natAbs<256):FitQ 1 (Rat.divInt a b):=by
 obtain⟨B,rfl⟩:∃ B:Nat,b=(B:Int):=⟨b.toNat,by omega⟩;have hm:mk (sgB a) a.natAbs=a:=mk_self a;obtain⟨h1,h2⟩:=div_mk (sgB a) a.natAbs B (by omega);rw [hm] at h1 h2;refine ⟨?_,?_⟩
 ·rw [Fit_iff,h1,mk_abs]
  exact Nat.lt_of_le_of_lt (Nat.div_le_self _ _) (by simpa using ha)
 rw [Fit_iff,h2];exact Nat.lt_of_le_of_lt (Nat.div_le_self _ _) (by simpa using hb2)
theorem InsA.fp (a:InsA):FitQ 1 a.p:=ygD (by omega) (by omega) (by omega)
theorem InsA.fr (a:InsA):FitQ 1 a.r:=ygD (by omega) (by omega) (by omega)
theorem InsA.rnn (a:InsA):0≤a.r:=by
 unfold InsA.r;rw [Rat.divInt_nonneg_iff_of_pos_right (by omega)];omega
noncomputable def InsA.k (a:InsA):K:=⟨ofQ a.p a.r a.neg,ofQ_ok a.rnn,by
 have h:=ofQ_fit (neg:=a.neg) a.fp a.fr
 exact ⟨h.1.mono (by decide),h.2.mono (by decide)⟩⟩
theorem ygH (a:InsA) (w:World):Calls prog 64 #[a.v] w fun e w'=>e = .returned (kv a.k)∧Keep [] w w':=by
 have H1:=jX (rof_c ((a.P:Int) % 64) (1+(a.D:Int) % 4) (by omega) (by omega) (by omega) (by omega) (by omega));have H2:=jX (rof_c ((a.R:Int) % 12) (1+(a.E:Int) % 3) (by omega) (by omega) (by omega) (by omega) (by omega));have H3:=jX (fof_c a.p a.r a.neg (a.fp.mono (by decide)) (a.fr.mono (by decide)));rw [show Rat.divInt ((a.P:Int) % 64) (1+(a.D:Int) % 4)=a.p from rfl] at H1
 rw [show Rat.divInt ((a.R:Int) % 12) (1+(a.E:Int) % 3)=a.r from rfl] at H2
 rw [show qv (ofQ a.p a.r a.neg)=kv a.k from rfl,yaI] at H3
 rw [yaI];unfold InsA.v;unfold rv at H1 H2 H3;generalize sgB (a.k.1).p.num=x1 at *;generalize mgS (a.k.1).p.num=x2 at *;generalize dnS (a.k.1).p.den=x3 at *;generalize sgB (a.k.1).r.num=x4 at *;generalize mgS (a.k.1).r.num=x5 at *;generalize dnS (a.k.1).r.den=x6 at *;generalize (a.k.1).neg=x7 at *;generalize sgB (a.p).num=p1 at *;generalize mgS (a.p).num=p2 at *;generalize dnS (a.p).den=p3 at *;generalize sgB (a.r).num=r1 at *;generalize mgS (a.r).num=r2 at *;generalize dnS (a.r).den=r3 at *;have hP:=a.hP;have hD:=a.hD;have hR:=a.hR;have hE:=a.hE;generalize a.P=P at *;generalize a.D=D at *;generalize a.R=R at *;generalize a.E=E at *;generalize a.neg=neg at *;go_enter func64,ntmps64
 go_wp2_with fail;obtain⟨W,ga,gb,hW,ega,egb,Bga,Bgb,hga,hgb,hgW,HkW⟩:=al2h w (.cells #[.int .u8 P,.int .u8 D,.int .u8 R,.int .u8 E,.bool neg] 26) (.cells #[.bool false,.string ⟨#[]⟩,.bool false,.string ⟨#[]⟩,.bool false,.string ⟨#[]⟩,.bool false,.string ⟨#[]⟩,.bool false] 36);rw [← hW];try rw [egb]
 try rw [ega]
 clear hW ega egb;have kga:=yag Bga.out;have Q1:Hid (∀ m:KW W,Calls prog 102 #[.int .i64 ((P:Int) % 64),.int .i64 (1+(D:Int) % 4)] (Wk W m) fun e w'=>e = .returned (.agg #[.bool p1,.string p2,.bool false,.string p3])∧∃ m,w'=Wk W m):=fun m=>qk m (H1.out _);have Q2:Hid (∀ m:KW W,Calls prog 102 #[.int .i64 ((R:Int) % 12),.int .i64 (1+(E:Int) % 3)] (Wk W m) fun e w'=>e = .returned (.agg #[.bool r1,.string r2,.bool false,.string r3])∧∃ m,w'=Wk W m):=fun m=>qk m (H2.out _);have Q3:Hid (∀ m:KW W,Calls prog 101 #[.agg #[.bool p1,.string p2,.bool false,.string p3],.agg #[.bool r1,.string r2,.bool false,.string r3],.bool neg] (Wk W m) fun e w'=>e = .returned (.agg #[.bool x1,.string x2,.bool false,.string x3,.bool x4,.string x5,.bool false,.string x6,.bool x7])∧∃ m,w'=Wk W m):=fun m=>qk m (H3.out _);clear H1 H2 H3;refine yan 23 (by kernel_rfl) (by kernel_rfl) ?_;simp only [List.take_succ_cons,List.take_zero,List.drop_succ_cons,List.drop_zero]
 repeat (first
  | go_big_quiet_skip
  | (go_big_quiet_want;go_big_quiet_op;first|go_big_quiet_on|go_big_quiet_call (first
   | (go_at_call 102;with_reducible exact (Q1).out _)|(go_at_call 102;with_reducible exact (Q2).out _)|(go_at_call 101;with_reducible exact (Q3).out _))))
 refine wpQuiet_nil ?_;rintro wz ⟨⟨_,hk_wz⟩,rfl⟩;clear kga Q1 Q2 Q3;replace Bga:=jH hk_wz Bga;replace Bgb:=jH hk_wz Bgb;replace HkW:=jX (HkW.out.tz hk_wz);clear hk_wz;obtain⟨pgb,fgb,lgb⟩:=jQ Bgb;go_wp2_with fail;refine bodyPost_ret (v:=.agg #[.bool x1,.string x2,.bool false,.string x3,.bool x4,.string x5,.bool false,.string x6,.bool x7]) ?_ rfl ⟨rfl,by repeat (first|(with_reducible exact HkW.out)|(refine Keep.sP ?_ _ _ _ (by omega))|(refine Keep.aP ?_ _)|(refine Keep.dP ?_))⟩;rw [yah rfl];go_simp
structure SpanA where
 a:InsA
 b:InsA
 oa:Bool
 ob:Bool
def SpanA.v (s:SpanA):Value:=.agg #[.int .u8 s.a.P,.int .u8 s.a.D,.int .u8 s.a.R,.int .u8 s.a.E,.bool s.a.neg,.int .u8 s.b.P,.int .u8 s.b.D,.int .u8 s.b.R,.int .u8 s.b.E,.bool s.b.neg,.bool s.oa,.bool s.ob]
open Classical in
noncomputable def SpanA.i (s:SpanA):Iv K:=if s.b.k<s.a.k then ⟨⟨s.b.k,s.oa⟩,⟨s.a.k,!s.ob⟩⟩ else if s.a.k=s.b.k then ⟨⟨s.a.k,false⟩,⟨s.b.k,true⟩⟩ else ⟨⟨s.a.k,s.oa⟩,⟨s.b.k,!s.ob⟩⟩
theorem SpanA.valid (s:SpanA):s.i.f<s.i.l:=by
 unfold SpanA.i;split
 ·rw [Bd.lt_def];exact .inl (by assumption)
 split
 ·rw [Bd.lt_def];exact .inr ⟨by assumption,rfl,rfl⟩
 rw [Bd.lt_def];refine .inl ?_;dsimp only;grind
theorem yfX (ev:Operand→Value) (w:World) (o:Oper) (ho:o.op = .alloc 49):(execOp ev o).run prog w = .ok (.value (.pointer (some ⟨w.heap.size,0,none⟩))) (w.alloc (.cells #[.bool false,.string ⟨#[]⟩,.bool false,.string ⟨#[]⟩,.bool false,.string ⟨#[]⟩,.bool false,.string ⟨#[]⟩,.bool false,.bool false,.string ⟨#[]⟩,.bool false,.string ⟨#[]⟩,.bool false,.string ⟨#[]⟩,.bool false,.string ⟨#[]⟩,.bool false,.bool false,.bool false] 49)):=by
 unfold execOp;simp only [ho];go_simp
theorem ones20 (f1 f4 f7 t1 t4 t7 o c:Bool) (f2 f3 f5 f6 t2 t3 t5 t6:ByteArray):(#[.bool f1,.string f2,.bool false,.string f3,.bool f4,.string f5,.bool false,.string f6,.bool f7,.bool t1,.string t2,.bool false,.string t3,.bool t4,.string t5,.bool false,.string t6,.bool t7,.bool o,.bool c]:Array Value).all (·.oneCell')=true:=by kernel_rfl
theorem put_from (f1 f4 f7 t1 t4 t7 o c:Bool) (f2 f3 f5 f6 t2 t3 t5 t6:ByteArray):yfr #[.bool f1,.string f2,.bool false,.string f3,.bool f4,.string f5,.bool false,.string f6,.bool f7,.bool t1,.string t2,.bool false,.string t3,.bool t4,.string t5,.bool false,.string t6,.bool t7,.bool o,.bool c] 0 [.bool t1,.string t2,.bool false,.string t3,.bool t4,.string t5,.bool false,.string t6,.bool t7] = #[.bool t1,.string t2,.bool false,.string t3,.bool t4,.string t5,.bool false,.string t6,.bool t7,.bool t1,.string t2,.bool false,.string t3,.bool t4,.string t5,.bool false,.string t6,.bool t7,.bool o,.bool c]:=by kernel_rfl
theorem put_to (f1 f4 f7 t1 t4 t7 o c:Bool) (f2 f3 f5 f6 t2 t3 t5 t6:ByteArray):yfr #[.bool t1,.string t2,.bool false,.string t3,.bool t4,.string t5,.bool false,.string t6,.bool t7,.bool t1,.string t2,.bool false,.string t3,.bool t4,.string t5,.bool false,.string t6,.bool t7,.bool o,.bool c] 9 [.bool f1,.string f2,.bool false,.string f3,.bool f4,.string f5,.bool false,.string f6,.bool f7] = #[.bool t1,.string t2,.bool false,.string t3,.bool t4,.string t5,.bool false,.string t6,.bool t7,.bool f1,.string f2,.bool false,.string f3,.bool f4,.string f5,.bool false,.string f6,.bool f7,.bool o,.bool c]:=by kernel_rfl
theorem ones9 (f1 f4 f7:Bool) (f2 f3 f5 f6:ByteArray):(#[.bool f1,.string f2,.bool false,.string f3,.bool f4,.string f5,.bool false,.string f6,.bool f7]:Array Value).all (·.oneCell')=true:=by kernel_rfl
theorem yjB (s:SpanA) (w:World):Calls prog 131 #[s.v] w fun e w'=>e = .returned (iv s.i)∧Keep [] w w':=by
 have H1:=jX (ygH s.a);have H2:=jX (ygH s.b);have H3:=jX (yfa s.a.k s.b.k);have htri:=K.tri s.a.k s.b.k;have hI:=s.valid;generalize hi:s.i=I at *;unfold SpanA.i at hi;unfold SpanA.v InsA.v at *;rw [yaI] at H1 H2;rw [yaI,yaI] at H3;generalize s.a.k=A at *;generalize s.b.k=B at *;generalize s.a.P=P1 at *;generalize s.a.D=D1 at *;generalize s.a.R=R1 at *;generalize s.a.E=E1 at *;generalize s.a.neg=n1 at *;generalize s.b.P=P2 at *;generalize s.b.D=D2 at *;generalize s.b.R=R2 at *;generalize s.b.E=E2 at *;generalize s.b.neg=n2 at *;generalize s.oa=o at *;generalize s.ob=c at *;have HS:Hid ((prog.info? 49).map (·.size)=some 20):=ycq ⟨⟨A,o⟩,⟨B,!c⟩⟩;have HI:=jX hi;have HV:=jX (ybk I);have HZ:=jX (ycq I);have HO:=jX (ycC I);clear hi hI;have HL:=jX (fun w g (h:w.heap[g]? = some (.cells (iC I) 49))=>ybH w g 0 I (yaW h));have HR:Hid (iv I = .agg (iC I)):=rfl;clear HV;rcases htri with ⟨hc,hlt⟩|⟨hc,hlt⟩|⟨hc,hlt⟩
 ·rw [hc] at H3
  have hC:iC I = #[.bool (sgB B.1.p.num),.string (mgS B.1.p.num),.bool false,.string (dnS B.1.p.den),.bool (sgB B.1.r.num),.string (mgS B.1.r.num),.bool false,.string (dnS B.1.r.den),.bool B.1.neg,.bool (sgB A.1.p.num),.string (mgS A.1.p.num),.bool false,.string (dnS A.1.p.den),.bool (sgB A.1.r.num),.string (mgS A.1.r.num),.bool false,.string (dnS A.1.r.den),.bool A.1.neg,.bool o,.bool c]:=by
   rw [← HI.out,if_pos hlt];show _=_
   cases c<;>rfl
  clear hc hlt HI;generalize sgB (A.1).p.num=f1 at *;generalize mgS (A.1).p.num=f2 at *;generalize dnS (A.1).p.den=f3 at *;generalize sgB (A.1).r.num=f4 at *;generalize mgS (A.1).r.num=f5 at *;generalize dnS (A.1).r.den=f6 at *;generalize (A.1).neg=f7 at *;generalize sgB (B.1).p.num=t1 at *;generalize mgS (B.1).p.num=t2 at *;generalize dnS (B.1).p.den=t3 at *;generalize sgB (B.1).r.num=t4 at *;generalize mgS (B.1).r.num=t5 at *;generalize dnS (B.1).r.den=t6 at *;generalize (B.1).neg=t7 at *;rw [hC] at HZ HO HL HR;clear hC;have hbd:=fun w=>run_build (P:=prog) w 49 #[(0,.agg #[.bool f1,.string f2,.bool false,.string f3,.bool f4,.string f5,.bool false,.string f6,.bool f7]),(1,.agg #[.bool t1,.string t2,.bool false,.string t3,.bool t4,.string t5,.bool false,.string t6,.bool t7]),(2,.bool o),(3,.bool c)] _ (yei _ _ _ _ _ _ _ _ _ _ _ _ _ _ _ _);go_enter func131,ntmps131
  go_wp2_with fail;obtain⟨W,ga,gb,hW,ega,egb,Bga,Bgb,hga,hgb,hgW,HkW⟩:=al2h w (.cells #[.int .u8 P1,.int .u8 D1,.int .u8 R1,.int .u8 E1,.bool n1,.int .u8 P2,.int .u8 D2,.int .u8 R2,.int .u8 E2,.bool n2,.bool o,.bool c] 129) (.cells #[.bool false,.string ⟨#[]⟩,.bool false,.string ⟨#[]⟩,.bool false,.string ⟨#[]⟩,.bool false,.string ⟨#[]⟩,.bool false,.bool false,.string ⟨#[]⟩,.bool false,.string ⟨#[]⟩,.bool false,.string ⟨#[]⟩,.bool false,.string ⟨#[]⟩,.bool false,.bool false,.bool false] 49);rw [← hW];try rw [egb]
  try rw [ega]
  clear hW ega egb;refine yaH 12 [(3,49)] (fun _=>.cells #[.bool false,.string ⟨#[]⟩,.bool false,.string ⟨#[]⟩,.bool false,.string ⟨#[]⟩,.bool false,.string ⟨#[]⟩,.bool false,.bool false,.string ⟨#[]⟩,.bool false,.string ⟨#[]⟩,.bool false,.string ⟨#[]⟩,.bool false,.string ⟨#[]⟩,.bool false,.bool false,.bool false] 49) (by kernel_rfl) (by kernel_rfl) (by kernel_rfl) (fun t ht ev w o ho=>by simp at ht;subst ht;exact yfX ev w o ho) ?_;intro U hU;have kga:=yag (hU.heap Bga.out (by simp));have Q1:Hid (∀ m:KW U,Calls prog 64 #[.agg #[.int .u8 P1,.int .u8 D1,.int .u8 R1,.int .u8 E1,.bool n1]] (Wk U m) fun e w'=>e = .returned (.agg #[.bool f1,.string f2,.bool false,.string f3,.bool f4,.string f5,.bool false,.string f6,.bool f7])∧∃ m,w'=Wk U m):=fun m=>qk m (H1.out _);have Q2:Hid (∀ m:KW U,Calls prog 64 #[.agg #[.int .u8 P2,.int .u8 D2,.int .u8 R2,.int .u8 E2,.bool n2]] (Wk U m) fun e w'=>e = .returned (.agg #[.bool t1,.string t2,.bool false,.string t3,.bool t4,.string t5,.bool false,.string t6,.bool t7])∧∃ m,w'=Wk U m):=fun m=>qk m (H2.out _);simp only [List.map_cons,List.map_nil,unal,isAl,if_true,if_false,Bool.false_eq_true,List.take_succ_cons,List.take_zero]
  repeat (first
   | go_big_quiet_skip
   | (go_big_quiet_want;go_big_quiet_op;first|go_big_quiet_on|go_big_quiet_call (first
    | (go_at_call 64;with_reducible exact (Q1).out _)|(go_at_call 64;with_reducible exact (Q2).out _))))
  refine wpQuiet_nil ?_;intro p hp1 hp2 w1 hk_w1 hz;have bgx:=hz (3,49) (by simp);have hgx:=hp1 3 (by simp);simp only [List.map_cons,List.map_nil,pl,List.drop_succ_cons,List.drop_zero];dsimp only at bgx;generalize p 3=gd at *;have Bgd:=jX bgx;have hgd:=hgx;clear hz hp1 hp2 bgx hgx;clear kga Q1 Q2 hU U p H1 H2;replace Bga:=jH hk_w1 Bga;replace Bgb:=jH hk_w1 Bgb;replace HkW:=jX (HkW.out.tz hk_w1);clear hk_w1;refine yam (by rfl) _ _ _ rfl gd #[.bool f1,.string f2,.bool false,.string f3,.bool f4,.string f5,.bool false,.string f6,.bool f7,.bool t1,.string t2,.bool false,.string t3,.bool t4,.string t5,.bool false,.string t6,.bool t7,.bool o,.bool c] rfl rfl _ _ Bgd.out (by exact HS.out) (by rfl) (ones20 _ _ _ _ _ _ _ _ _ _ _ _ _ _ _ _) (fun K hK=>?_);obtain⟨W4,e4,b4,hkW2⟩:=yal (cs:=#[.bool f1,.string f2,.bool false,.string f3,.bool f4,.string f5,.bool false,.string f6,.bool f7,.bool t1,.string t2,.bool false,.string t3,.bool t4,.string t5,.bool false,.string t6,.bool t7,.bool o,.bool c]) Bgd.out;rw [e4];go_simp;refine hK _ _ ?_;clear hK K;have Bgd:=jX b4;clear b4 e4;have B2ga:=jX (hkW2.heap Bga.out (by simp;omega));clear Bga;have Bga:=B2ga;clear B2ga;have B2gb:=jX (hkW2.heap Bgb.out (by simp;omega));clear Bgb;have Bgb:=B2gb;clear B2gb;have HkW2:=jX (HkW.out.trans hkW2 (by simp;omega));clear HkW hkW2;have HkW:=HkW2;clear HkW2;obtain⟨pgd,fgd,lgd⟩:=jQ Bgd;go_wp2_with fail;refine (H3.out _).mono ?_;rintro e w5 ⟨rfl,hk5⟩;dsimp only;have Bgb:=jX (hk5.heap Bgb.out (by simp));have Bgd:=jX (hk5.heap Bgd.out (by simp));have HkW:=jX (HkW.out.tz hk5);clear pgd fgd lgd H3;go_upto_region 4 with (fail)
  refine wp_region_lit ?_;obtain⟨pgd,fgd,lgd⟩:=jQ Bgd;refine' yad (v:=_) (by rfl) (?ha) (fun K hK=>?ka)
  case ha=>(go_simp;try rfl)
  go_simp;refine hK _ _ ?_;clear hK K;refine' yad (v:=_) (by rfl) (?hb) (fun K hK=>?kb)
  case hb=>(go_simp;try rfl)
  go_simp;refine hK _ _ ?_;clear hK K;refine' yad (v:=_) (by rfl) (?hc) (fun K hK=>?kc)
  case hc=>(go_simp;try rfl)
  go_simp;refine hK _ _ ?_;clear hK K;refine' yad (v:=_) (by rfl) (?hd) (fun K hK=>?kd)
  case hd=>(go_simp;try rfl)
  go_simp;refine hK _ _ ?_;clear hK K;refine' yad (v:=_) (by rfl) (?he) (fun K hK=>?ke)
  case he=>(go_simp;try rfl)
  go_simp;refine hK _ _ ?_;clear hK K;clear pgd fgd lgd;refine ybP (by rfl) _ _ _ rfl gd 0 #[.bool t1,.string t2,.bool false,.string t3,.bool t4,.string t5,.bool false,.string t6,.bool t7] rfl rfl (ydu Bgd.out _ _ (by simp)) k_size (ones9 _ _ _ _ _ _ _) (fun K hK=>?_);obtain⟨b6,k6⟩:=ybv [.bool t1,.string t2,.bool false,.string t3,.bool t4,.string t5,.bool false,.string t6,.bool t7] 0 _ _ Bgd.out;rw [put_from] at b6;have b6':=k6.heap Bgb.out (by simp;omega);have HkW:=jX (HkW.out.trans k6 (by simp;omega));show K _ (w5.setCells gd 0 [.bool t1,.string t2,.bool false,.string t3,.bool t4,.string t5,.bool false,.string t6,.bool t7])
  generalize w5.setCells gd 0 [.bool t1,.string t2,.bool false,.string t3,.bool t4,.string t5,.bool false,.string t6,.bool t7]=w6 at *;go_simp;refine hK _ _ ?_;clear hK K k6;have Bgd:=jX b6;have Bgb:=jX b6';clear b6 b6';refine' yad (v:=_) (by rfl) (?hg) (fun K hK=>?kg)
  case hg=>(go_simp;try rfl)
  go_simp;refine hK _ _ ?_;clear hK K;refine ybP (by rfl) _ _ _ rfl gd 9 #[.bool f1,.string f2,.bool false,.string f3,.bool f4,.string f5,.bool false,.string f6,.bool f7] rfl rfl (ydu Bgd.out _ _ (by simp)) k_size (ones9 _ _ _ _ _ _ _) (fun K hK=>?_);obtain⟨b7,k7⟩:=ybv [.bool f1,.string f2,.bool false,.string f3,.bool f4,.string f5,.bool false,.string f6,.bool f7] 9 _ _ Bgd.out;rw [put_to] at b7;have b7':=k7.heap Bgb.out (by simp;omega);have HkW:=jX (HkW.out.trans k7 (by simp;omega));show K _ (w6.setCells gd 9 [.bool f1,.string f2,.bool false,.string f3,.bool f4,.string f5,.bool false,.string f6,.bool f7])
  generalize w6.setCells gd 9 [.bool f1,.string f2,.bool false,.string f3,.bool f4,.string f5,.bool false,.string f6,.bool f7]=w7 at *;go_simp;refine hK _ _ ?_;clear hK K k7;have Bgd:=jX b7;have Bgb:=jX b7';clear b7 b7';go_upto_region 7 with (fail)
  refine wp_region_lit ?_;refine yad (v:=.agg #[.bool t1,.string t2,.bool false,.string t3,.bool t4,.string t5,.bool false,.string t6,.bool t7,.bool f1,.string f2,.bool false,.string f3,.bool f4,.string f5,.bool false,.string f6,.bool f7,.bool o,.bool c]) (by rfl) (yak _ _ ⟨gd,0,none⟩ _ rfl rfl (by have:=HL.out _ _ Bgd.out;rw [HR.out] at this;exact this)) (fun K hK=>?_);go_simp;refine hK _ _ ?_;clear hK K;refine yam (by rfl) _ _ _ rfl gb #[.bool t1,.string t2,.bool false,.string t3,.bool t4,.string t5,.bool false,.string t6,.bool t7,.bool f1,.string f2,.bool false,.string f3,.bool f4,.string f5,.bool false,.string f6,.bool f7,.bool o,.bool c] rfl rfl _ _ Bgb.out HZ.out (by rfl) HO.out (fun K hK=>?_);obtain⟨W8,e8,b8,k8⟩:=yal (cs:=#[.bool t1,.string t2,.bool false,.string t3,.bool t4,.string t5,.bool false,.string t6,.bool t7,.bool f1,.string f2,.bool false,.string f3,.bool f4,.string f5,.bool false,.string f6,.bool f7,.bool o,.bool c]) Bgb.out;rw [e8];go_simp;refine hK _ _ ?_;clear hK K;have Hb8:=jX b8;have HkZ:=jX (HkW.out.trans k8 (by simp;omega));clear b8 k8 e8;go_wp2_with fail;refine bodyPost_ret (v:=iv I) ?_ rfl ⟨rfl,HkZ.out⟩;rw [yah rfl];exact HL.out _ _ Hb8.out
 ·rw [hc] at H3
  have hC:iC I = #[.bool (sgB A.1.p.num),.string (mgS A.1.p.num),.bool false,.string (dnS A.1.p.den),.bool (sgB A.1.r.num),.string (mgS A.1.r.num),.bool false,.string (dnS A.1.r.den),.bool A.1.neg,.bool (sgB B.1.p.num),.string (mgS B.1.p.num),.bool false,.string (dnS B.1.p.den),.bool (sgB B.1.r.num),.string (mgS B.1.r.num),.bool false,.string (dnS B.1.r.den),.bool B.1.neg,.bool o,.bool c]:=by
   rw [← HI.out,if_neg (by grind),if_neg (by grind)];show _=_
   cases c<;>rfl
  clear hc hlt HI;generalize sgB (A.1).p.num=f1 at *;generalize mgS (A.1).p.num=f2 at *;generalize dnS (A.1).p.den=f3 at *;generalize sgB (A.1).r.num=f4 at *;generalize mgS (A.1).r.num=f5 at *;generalize dnS (A.1).r.den=f6 at *;generalize (A.1).neg=f7 at *;generalize sgB (B.1).p.num=t1 at *;generalize mgS (B.1).p.num=t2 at *;generalize dnS (B.1).p.den=t3 at *;generalize sgB (B.1).r.num=t4 at *;generalize mgS (B.1).r.num=t5 at *;generalize dnS (B.1).r.den=t6 at *;generalize (B.1).neg=t7 at *;rw [hC] at HZ HO HL HR;clear hC;have hbd:=fun w=>run_build (P:=prog) w 49 #[(0,.agg #[.bool f1,.string f2,.bool false,.string f3,.bool f4,.string f5,.bool false,.string f6,.bool f7]),(1,.agg #[.bool t1,.string t2,.bool false,.string t3,.bool t4,.string t5,.bool false,.string t6,.bool t7]),(2,.bool o),(3,.bool c)] _ (yei _ _ _ _ _ _ _ _ _ _ _ _ _ _ _ _);go_enter func131,ntmps131
  go_wp2_with fail;obtain⟨W,ga,gb,hW,ega,egb,Bga,Bgb,hga,hgb,hgW,HkW⟩:=al2h w (.cells #[.int .u8 P1,.int .u8 D1,.int .u8 R1,.int .u8 E1,.bool n1,.int .u8 P2,.int .u8 D2,.int .u8 R2,.int .u8 E2,.bool n2,.bool o,.bool c] 129) (.cells #[.bool false,.string ⟨#[]⟩,.bool false,.string ⟨#[]⟩,.bool false,.string ⟨#[]⟩,.bool false,.string ⟨#[]⟩,.bool false,.bool false,.string ⟨#[]⟩,.bool false,.string ⟨#[]⟩,.bool false,.string ⟨#[]⟩,.bool false,.string ⟨#[]⟩,.bool false,.bool false,.bool false] 49);rw [← hW];try rw [egb]
  try rw [ega]
  clear hW ega egb;refine yaH 12 [(3,49)] (fun _=>.cells #[.bool false,.string ⟨#[]⟩,.bool false,.string ⟨#[]⟩,.bool false,.string ⟨#[]⟩,.bool false,.string ⟨#[]⟩,.bool false,.bool false,.string ⟨#[]⟩,.bool false,.string ⟨#[]⟩,.bool false,.string ⟨#[]⟩,.bool false,.string ⟨#[]⟩,.bool false,.bool false,.bool false] 49) (by kernel_rfl) (by kernel_rfl) (by kernel_rfl) (fun t ht ev w o ho=>by simp at ht;subst ht;exact yfX ev w o ho) ?_;intro U hU;have kga:=yag (hU.heap Bga.out (by simp));have Q1:Hid (∀ m:KW U,Calls prog 64 #[.agg #[.int .u8 P1,.int .u8 D1,.int .u8 R1,.int .u8 E1,.bool n1]] (Wk U m) fun e w'=>e = .returned (.agg #[.bool f1,.string f2,.bool false,.string f3,.bool f4,.string f5,.bool false,.string f6,.bool f7])∧∃ m,w'=Wk U m):=fun m=>qk m (H1.out _);have Q2:Hid (∀ m:KW U,Calls prog 64 #[.agg #[.int .u8 P2,.int .u8 D2,.int .u8 R2,.int .u8 E2,.bool n2]] (Wk U m) fun e w'=>e = .returned (.agg #[.bool t1,.string t2,.bool false,.string t3,.bool t4,.string t5,.bool false,.string t6,.bool t7])∧∃ m,w'=Wk U m):=fun m=>qk m (H2.out _);simp only [List.map_cons,List.map_nil,unal,isAl,if_true,if_false,Bool.false_eq_true,List.take_succ_cons,List.take_zero]
  repeat (first
   | go_big_quiet_skip
   | (go_big_quiet_want;go_big_quiet_op;first|go_big_quiet_on|go_big_quiet_call (first
    | (go_at_call 64;with_reducible exact (Q1).out _)|(go_at_call 64;with_reducible exact (Q2).out _))))
  refine wpQuiet_nil ?_;intro p hp1 hp2 w1 hk_w1 hz;have bgx:=hz (3,49) (by simp);have hgx:=hp1 3 (by simp);simp only [List.map_cons,List.map_nil,pl,List.drop_succ_cons,List.drop_zero];dsimp only at bgx;generalize p 3=gd at *;have Bgd:=jX bgx;have hgd:=hgx;clear hz hp1 hp2 bgx hgx;clear kga Q1 Q2 hU U p H1 H2;replace Bga:=jH hk_w1 Bga;replace Bgb:=jH hk_w1 Bgb;replace HkW:=jX (HkW.out.tz hk_w1);clear hk_w1;refine yam (by rfl) _ _ _ rfl gd #[.bool f1,.string f2,.bool false,.string f3,.bool f4,.string f5,.bool false,.string f6,.bool f7,.bool t1,.string t2,.bool false,.string t3,.bool t4,.string t5,.bool false,.string t6,.bool t7,.bool o,.bool c] rfl rfl _ _ Bgd.out (by exact HS.out) (by rfl) (ones20 _ _ _ _ _ _ _ _ _ _ _ _ _ _ _ _) (fun K hK=>?_);obtain⟨W4,e4,b4,hkW2⟩:=yal (cs:=#[.bool f1,.string f2,.bool false,.string f3,.bool f4,.string f5,.bool false,.string f6,.bool f7,.bool t1,.string t2,.bool false,.string t3,.bool t4,.string t5,.bool false,.string t6,.bool t7,.bool o,.bool c]) Bgd.out;rw [e4];go_simp;refine hK _ _ ?_;clear hK K;have Bgd:=jX b4;clear b4 e4;have B2ga:=jX (hkW2.heap Bga.out (by simp;omega));clear Bga;have Bga:=B2ga;clear B2ga;have B2gb:=jX (hkW2.heap Bgb.out (by simp;omega));clear Bgb;have Bgb:=B2gb;clear B2gb;have HkW2:=jX (HkW.out.trans hkW2 (by simp;omega));clear HkW hkW2;have HkW:=HkW2;clear HkW2;obtain⟨pgd,fgd,lgd⟩:=jQ Bgd;go_wp2_with fail;refine (H3.out _).mono ?_;rintro e w5 ⟨rfl,hk5⟩;dsimp only;have Bgb:=jX (hk5.heap Bgb.out (by simp));have Bgd:=jX (hk5.heap Bgd.out (by simp));have HkW:=jX (HkW.out.tz hk5);clear pgd fgd lgd H3;go_upto_region 7 with (fail)
  refine wp_region_lit ?_;refine yad (v:=.agg #[.bool f1,.string f2,.bool false,.string f3,.bool f4,.string f5,.bool false,.string f6,.bool f7,.bool t1,.string t2,.bool false,.string t3,.bool t4,.string t5,.bool false,.string t6,.bool t7,.bool o,.bool c]) (by rfl) (yak _ _ ⟨gd,0,none⟩ _ rfl rfl (by have:=HL.out _ _ Bgd.out;rw [HR.out] at this;exact this)) (fun K hK=>?_);go_simp;refine hK _ _ ?_;clear hK K;refine yam (by rfl) _ _ _ rfl gb #[.bool f1,.string f2,.bool false,.string f3,.bool f4,.string f5,.bool false,.string f6,.bool f7,.bool t1,.string t2,.bool false,.string t3,.bool t4,.string t5,.bool false,.string t6,.bool t7,.bool o,.bool c] rfl rfl _ _ Bgb.out HZ.out (by rfl) HO.out (fun K hK=>?_);obtain⟨W8,e8,b8,k8⟩:=yal (cs:=#[.bool f1,.string f2,.bool false,.string f3,.bool f4,.string f5,.bool false,.string f6,.bool f7,.bool t1,.string t2,.bool false,.string t3,.bool t4,.string t5,.bool false,.string t6,.bool t7,.bool o,.bool c]) Bgb.out;rw [e8];go_simp;refine hK _ _ ?_;clear hK K;have Hb8:=jX b8;have HkZ:=jX (HkW.out.trans k8 (by simp;omega));clear b8 k8 e8;go_wp2_with fail;refine bodyPost_ret (v:=iv I) ?_ rfl ⟨rfl,HkZ.out⟩;rw [yah rfl];exact HL.out _ _ Hb8.out
 rw [hc] at H3
 have hC:iC I = #[.bool (sgB A.1.p.num),.string (mgS A.1.p.num),.bool false,.string (dnS A.1.p.den),.bool (sgB A.1.r.num),.string (mgS A.1.r.num),.bool false,.string (dnS A.1.r.den),.bool A.1.neg,.bool (sgB B.1.p.num),.string (mgS B.1.p.num),.bool false,.string (dnS B.1.p.den),.bool (sgB B.1.r.num),.string (mgS B.1.r.num),.bool false,.string (dnS B.1.r.den),.bool B.1.neg,.bool false,.bool false]:=by
  rw [← HI.out,if_neg (by grind),if_pos hlt];rfl
 clear hc hlt HI;generalize sgB (A.1).p.num=f1 at *;generalize mgS (A.1).p.num=f2 at *;generalize dnS (A.1).p.den=f3 at *;generalize sgB (A.1).r.num=f4 at *;generalize mgS (A.1).r.num=f5 at *;generalize dnS (A.1).r.den=f6 at *;generalize (A.1).neg=f7 at *;generalize sgB (B.1).p.num=t1 at *;generalize mgS (B.1).p.num=t2 at *;generalize dnS (B.1).p.den=t3 at *;generalize sgB (B.1).r.num=t4 at *;generalize mgS (B.1).r.num=t5 at *;generalize dnS (B.1).r.den=t6 at *;generalize (B.1).neg=t7 at *;rw [hC] at HZ HO HL HR;clear hC;have hbd:=fun w=>run_build (P:=prog) w 49 #[(0,.agg #[.bool f1,.string f2,.bool false,.string f3,.bool f4,.string f5,.bool false,.string f6,.bool f7]),(1,.agg #[.bool t1,.string t2,.bool false,.string t3,.bool t4,.string t5,.bool false,.string t6,.bool t7]),(2,.bool o),(3,.bool c)] _ (yei _ _ _ _ _ _ _ _ _ _ _ _ _ _ _ _);go_enter func131,ntmps131
 go_wp2_with fail;obtain⟨W,ga,gb,hW,ega,egb,Bga,Bgb,hga,hgb,hgW,HkW⟩:=al2h w (.cells #[.int .u8 P1,.int .u8 D1,.int .u8 R1,.int .u8 E1,.bool n1,.int .u8 P2,.int .u8 D2,.int .u8 R2,.int .u8 E2,.bool n2,.bool o,.bool c] 129) (.cells #[.bool false,.string ⟨#[]⟩,.bool false,.string ⟨#[]⟩,.bool false,.string ⟨#[]⟩,.bool false,.string ⟨#[]⟩,.bool false,.bool false,.string ⟨#[]⟩,.bool false,.string ⟨#[]⟩,.bool false,.string ⟨#[]⟩,.bool false,.string ⟨#[]⟩,.bool false,.bool false,.bool false] 49);rw [← hW];try rw [egb]
 try rw [ega]
 clear hW ega egb;refine yaH 12 [(3,49)] (fun _=>.cells #[.bool false,.string ⟨#[]⟩,.bool false,.string ⟨#[]⟩,.bool false,.string ⟨#[]⟩,.bool false,.string ⟨#[]⟩,.bool false,.bool false,.string ⟨#[]⟩,.bool false,.string ⟨#[]⟩,.bool false,.string ⟨#[]⟩,.bool false,.string ⟨#[]⟩,.bool false,.bool false,.bool false] 49) (by kernel_rfl) (by kernel_rfl) (by kernel_rfl) (fun t ht ev w o ho=>by simp at ht;subst ht;exact yfX ev w o ho) ?_;intro U hU;have kga:=yag (hU.heap Bga.out (by simp));have Q1:Hid (∀ m:KW U,Calls prog 64 #[.agg #[.int .u8 P1,.int .u8 D1,.int .u8 R1,.int .u8 E1,.bool n1]] (Wk U m) fun e w'=>e = .returned (.agg #[.bool f1,.string f2,.bool false,.string f3,.bool f4,.string f5,.bool false,.string f6,.bool f7])∧∃ m,w'=Wk U m):=fun m=>qk m (H1.out _);have Q2:Hid (∀ m:KW U,Calls prog 64 #[.agg #[.int .u8 P2,.int .u8 D2,.int .u8 R2,.int .u8 E2,.bool n2]] (Wk U m) fun e w'=>e = .returned (.agg #[.bool t1,.string t2,.bool false,.string t3,.bool t4,.string t5,.bool false,.string t6,.bool t7])∧∃ m,w'=Wk U m):=fun m=>qk m (H2.out _);simp only [List.map_cons,List.map_nil,unal,isAl,if_true,if_false,Bool.false_eq_true,List.take_succ_cons,List.take_zero]
 repeat (first
  | go_big_quiet_skip
  | (go_big_quiet_want;go_big_quiet_op;first|go_big_quiet_on|go_big_quiet_call (first
   | (go_at_call 64;with_reducible exact (Q1).out _)|(go_at_call 64;with_reducible exact (Q2).out _))))
 refine wpQuiet_nil ?_;intro p hp1 hp2 w1 hk_w1 hz;have bgx:=hz (3,49) (by simp);have hgx:=hp1 3 (by simp);simp only [List.map_cons,List.map_nil,pl,List.drop_succ_cons,List.drop_zero];dsimp only at bgx;generalize p 3=gd at *;have Bgd:=jX bgx;have hgd:=hgx;clear hz hp1 hp2 bgx hgx;clear kga Q1 Q2 hU U p H1 H2;replace Bga:=jH hk_w1 Bga;replace Bgb:=jH hk_w1 Bgb;replace HkW:=jX (HkW.out.tz hk_w1);clear hk_w1;refine yam (by rfl) _ _ _ rfl gd #[.bool f1,.string f2,.bool false,.string f3,.bool f4,.string f5,.bool false,.string f6,.bool f7,.bool t1,.string t2,.bool false,.string t3,.bool t4,.string t5,.bool false,.string t6,.bool t7,.bool o,.bool c] rfl rfl _ _ Bgd.out (by exact HS.out) (by rfl) (ones20 _ _ _ _ _ _ _ _ _ _ _ _ _ _ _ _) (fun K hK=>?_);obtain⟨W4,e4,b4,hkW2⟩:=yal (cs:=#[.bool f1,.string f2,.bool false,.string f3,.bool f4,.string f5,.bool false,.string f6,.bool f7,.bool t1,.string t2,.bool false,.string t3,.bool t4,.string t5,.bool false,.string t6,.bool t7,.bool o,.bool c]) Bgd.out;rw [e4];go_simp;refine hK _ _ ?_;clear hK K;have Bgd:=jX b4;clear b4 e4;have B2ga:=jX (hkW2.heap Bga.out (by simp;omega));clear Bga;have Bga:=B2ga;clear B2ga;have B2gb:=jX (hkW2.heap Bgb.out (by simp;omega));clear Bgb;have Bgb:=B2gb;clear B2gb;have HkW2:=jX (HkW.out.trans hkW2 (by simp;omega));clear HkW hkW2;have HkW:=HkW2;clear HkW2;obtain⟨pgd,fgd,lgd⟩:=jQ Bgd;go_wp2_with fail;refine (H3.out _).mono ?_;rintro e w5 ⟨rfl,hk5⟩;dsimp only;have Bgb:=jX (hk5.heap Bgb.out (by simp));have Bgd:=jX (hk5.heap Bgd.out (by simp));have HkW:=jX (HkW.out.tz hk5);clear pgd fgd lgd H3;obtain⟨pgd,fgd,lgd⟩:=jQ Bgd;go_upto_region 7 with (fail)
 have b9:=set_same (set_same Bgd.out 18 (.bool false)) 19 (.bool false);have k9:Keep [gd] w5 ((w5.setCell ⟨gd,18,none⟩ (.bool false)).setCell ⟨gd,19,none⟩ (.bool false)):=(Keep.setCell [gd] w5 gd 18 _ (by simp)).trans (Keep.setCell [gd] _ gd 19 _ (by simp)) (by simp);have b10:=k9.heap Bgb.out (by simp;omega);have HkW:=jX (HkW.out.trans k9 (by simp;omega));clear pgd fgd lgd k9;generalize (w5.setCell ⟨gd,18,none⟩ (.bool false)).setCell ⟨gd,19,none⟩ (.bool false)=w6 at *;have Bgd:=jX (show w6.heap[gd]? = some (.cells #[.bool f1,.string f2,.bool false,.string f3,.bool f4,.string f5,.bool false,.string f6,.bool f7,.bool t1,.string t2,.bool false,.string t3,.bool t4,.string t5,.bool false,.string t6,.bool t7,.bool false,.bool false] 49) from b9)
 have Bgb:=jX b10;clear b9 b10;refine wp_region_lit ?_;refine yad (v:=.agg #[.bool f1,.string f2,.bool false,.string f3,.bool f4,.string f5,.bool false,.string f6,.bool f7,.bool t1,.string t2,.bool false,.string t3,.bool t4,.string t5,.bool false,.string t6,.bool t7,.bool false,.bool false]) (by rfl) (yak _ _ ⟨gd,0,none⟩ _ rfl rfl (by have:=HL.out _ _ Bgd.out;rw [HR.out] at this;exact this)) (fun K hK=>?_);go_simp;refine hK _ _ ?_;clear hK K;refine yam (by rfl) _ _ _ rfl gb #[.bool f1,.string f2,.bool false,.string f3,.bool f4,.string f5,.bool false,.string f6,.bool f7,.bool t1,.string t2,.bool false,.string t3,.bool t4,.string t5,.bool false,.string t6,.bool t7,.bool false,.bool false] rfl rfl _ _ Bgb.out HZ.out (by rfl) HO.out (fun K hK=>?_);obtain⟨W8,e8,b8,k8⟩:=yal (cs:=#[.bool f1,.string f2,.bool false,.string f3,.bool f4,.string f5,.bool false,.string f6,.bool f7,.bool t1,.string t2,.bool false,.string t3,.bool t4,.string t5,.bool false,.string t6,.bool t7,.bool false,.bool false]) Bgb.out;rw [e8];go_simp;refine hK _ _ ?_;clear hK K;have Hb8:=jX b8;have HkZ:=jX (HkW.out.trans k8 (by simp;omega));clear b8 k8 e8;go_wp2_with fail;refine bodyPost_ret (v:=iv I) ?_ rfl ⟨rfl,HkZ.out⟩;rw [yah rfl];exact HL.out _ _ Hb8.out
end Go.Proofs.YtejegogbhpmgfaaGreatDoor
