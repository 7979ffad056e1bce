/- Parts of a proof: Pm Te Sv Tm Pn Ue Uf Sw Sx Ug Uh Vg Vh Vb Mb. -/
import Derived.Deep.CutBlock
import Derived.IntWalk
import Derived.Laws.AppendOwnNone
import Derived.Deep.DeepCutAuto
import Derived.Deep.Cut
import Derived.Deep.CutRange
import Derived.Test.YtpgffjjpiafhpaaGreatDoorU13
import Derived.Test.YtpgffjjpiafhpaaGreatDoorU14
import Derived.Test.YtpgffjjpiafhpaaGreatDoorU16
import Derived.Test.YtpgffjjpiafhpaaGreatDoorU15
import Derived.Test.YtpgffjjpiafhpaaGreatDoorU17
import Derived.Test.YtpgffjjpiafhpaaGreatDoorU08
import Derived.Test.YtpgffjjpiafhpaaGreatDoorU03
import Derived.Test.YtpgffjjpiafhpaaGreatDoorU05
import Derived.Test.YtpgffjjpiafhpaaGreatDoorU04
import Derived.Test.YtpgffjjpiafhpaaGreatDoorU09
import Derived.Test.YtpgffjjpiafhpaaGreatDoorU12
set_option linter.unusedVariables false
set_option linter.unusedSimpArgs false
set_option linter.unusedSectionVars false
set_option maxRecDepth 100000
set_option maxHeartbeats 8000000
namespace Go.Proofs.YtpgffjjpiafhpaaGreatDoor
open Go.RowKit Tryz
section
open Classical
variable {α:Type} [LE α] [LT α] [Std.LawfulOrderLT α] [Std.IsLinearOrder α]
noncomputable def insS (x:α):List α→List α
 | []=>[x]
 | y :: r=>if y<x then y :: insS x r else if y=x then y :: r else x :: y :: r
noncomputable def sortS (l:List α):List α:=l.foldl (fun out x=>insS x out) []
theorem yiI {x z:α} (l:List α):z∈insS x l↔z=x∨z∈l:=by
 induction l with
 | nil=>simp [insS]
 | cons y r ih =>
  unfold insS;by_cases h1:y<x
  ·rw [if_pos h1,List.mem_cons,ih,List.mem_cons]
   constructor
   ·rintro (h|h|h)<;>simp [h]
   rintro (h|h|h)<;>simp [h]
  rw [if_neg h1];by_cases h2:y=x
  ·rw [if_pos h2,List.mem_cons]
   subst h2;simp
  rw [if_neg h2,List.mem_cons]
theorem insS_ord {x:α} {l:List α} (h:l.Pairwise (· < ·)):(insS x l).Pairwise (· < ·):=by
 induction l with
 | nil=>simp [insS]
 | cons y r ih =>
  obtain⟨h1,h2⟩:=List.pairwise_cons.1 h;unfold insS;by_cases h3:y<x
  ·rw [if_pos h3,List.pairwise_cons]
   refine ⟨fun z hz=>?_,ih h2⟩;rcases (yiI r).1 hz with rfl|hz
   ·exact h3
   exact h1 z hz
  rw [if_neg h3];by_cases h4:y=x
  ·rw [if_pos h4];exact h
  rw [if_neg h4,List.pairwise_cons];refine ⟨fun z hz=>?_,h⟩;rcases List.mem_cons.1 hz with rfl|hz
  ·grind
  have:=h1 z hz;grind
theorem yhd (l:List α):∀ out:List α,out.Pairwise (· < ·)→(l.foldl (fun out x=>insS x out) out).Pairwise (· < ·)∧∀ z,z∈l.foldl (fun out x=>insS x out) out↔z∈out∨z∈l:=by
 induction l with
 | nil=>intro out h;exact ⟨h,by simp⟩
 | cons x l ih =>
  intro out h;obtain⟨h1,h2⟩:=ih (insS x out) (insS_ord h);refine ⟨h1,fun z=>?_⟩;rw [List.foldl_cons,h2,yiI,List.mem_cons];constructor
  ·rintro ((h|h)|h)<;>simp [h]
  rintro (h|h|h)<;>simp [h]
theorem sortS_ord (l:List α):(sortS l).Pairwise (· < ·):=(yhd l [] List.Pairwise.nil).1
theorem yeP {l:List α} {z:α}:z∈sortS l↔z∈l:=by rw [sortS,(yhd l [] List.Pairwise.nil).2];simp
end
section
open Classical
def ptsL (l:List (Iv K)):List K:=l.flatMap fun i=>[i.f.pt,i.l.pt]
theorem ptsL_len (l:List (Iv K)):(ptsL l).length=2*l.length:=by
 unfold ptsL;induction l with
 | nil=>rfl
 | cons i l ih=>rw [List.flatMap_cons,List.length_append,ih];simp;omega
end
def decV (op:Int) (a b:Bool):Bool:=if op=1 then a || b else if op=2 then a&&b else a && !b
theorem ycH (op:Int):decV op false false=false:=by unfold decV;split<;>(try split)<;>rfl
section
open Classical
theorem iv_b01r (f1 f4 f7 t1 t4 t7:Bool) (f2 f3 f5 f6 t2 t3 t5 t6:ByteArray):prog.built 32 [(0,.agg #[.bool f1,.string f2,.bool false,.string f3,.bool f4,.string f5,.bool false,.string f6,.bool f7]),(1,.agg #[.bool t1,.string t2,.bool false,.string t3,.bool t4,.string t5,.bool false,.string t6,.bool t7])]=some #[.bool f1,.string f2,.bool false,.string f3,.bool f4,.string f5,.bool false,.string f6,.bool f7,.bool t1,.string t2,.bool false,.string t3,.bool t4,.string t5,.bool false,.string t6,.bool t7,.bool false,.bool false]:=by kernel_rfl
theorem iv_b01 (x y:K):prog.built 32 [(0,kv x),(1,kv y)]=some (iC ⟨⟨x,false⟩,⟨y,true⟩⟩):=iv_b01r _ _ _ _ _ _ _ _ _ _ _ _ _ _
end
noncomputable def combK (op:Int) (a b:List (Iv K)):List (Iv K):=cells (decV op) a b (sortS (ptsL (a++b)))
theorem ycg {l:List (Iv K)} {x:K}:x∈ptsL l↔∃ i∈l,x=i.f.pt∨x=i.l.pt:=by
 unfold ptsL;rw [List.mem_flatMap];simp
theorem ydb {l a:List (Iv K)} (h:∀ i∈a,i∈l):EndsOf (sortS (ptsL l)) a :=
 ⟨sortS_ord _,fun i hi=>yeP.2 (ycg.2 ⟨i,h i hi,.inl rfl⟩),fun i hi=>yeP.2 (ycg.2 ⟨i,h i hi,.inr rfl⟩)⟩
theorem yau (op:Int) (a b:List (Iv K)):Norm (combK op a b) :=
 (ygM (ycH op) (ydb (l:=a++b) (fun i hi=>List.mem_append_left _ hi)) (ydb (l:=a++b) (fun i hi=>List.mem_append_right _ hi))).1
theorem ybY (op:Int) (a b:List (Iv K)) (x:Bd K):hasL (combK op a b) x=decV op (hasL a x) (hasL b x) :=
 (ygM (ycH op) (ydb (l:=a++b) (fun i hi=>List.mem_append_left _ hi)) (ydb (l:=a++b) (fun i hi=>List.mem_append_right _ hi))).2 x
def PtsIn (S:List K) (l:List (Iv K)):Prop:=∀ i∈l,i.f.pt∈S∧i.l.pt∈S
theorem PtsIn.mono {S T:List K} {l:List (Iv K)} (h:PtsIn S l) (hT:∀ x∈S,x∈T):PtsIn T l:=fun i hi=>⟨hT _ (h i hi).1,hT _ (h i hi).2⟩
theorem PtsIn.nil (S:List K):PtsIn S []:=fun _ h=>by cases h
theorem PtsIn.self (l:List (Iv K)):PtsIn (ptsL l) l:=fun i hi=>⟨ycg.2 ⟨i,hi,.inl rfl⟩,ycg.2 ⟨i,hi,.inr rfl⟩⟩
theorem PtsIn.app {S:List K} {l m:List (Iv K)} (h:PtsIn S l) (k:PtsIn S m):PtsIn S (l++m):=fun i hi=>by
 rcases List.mem_append.1 hi with hi|hi
 ·exact h i hi
 exact k i hi
theorem PtsIn.sub {S:List K} {l m:List (Iv K)} (h:PtsIn S l) (hm:∀ i∈m,i∈l):PtsIn S m:=fun i hi=>h i (hm i hi)
theorem ygG {S:List K} {here op:Bool} {t:K} {out:List (Iv K)} (ht:t∈S) (h:PtsIn S out):PtsIn S (ydJ here op t out):=by
 unfold ydJ;cases op
 ·cases here
  ·exact h
  exact h.app (fun i hi=>by simp at hi;subst hi;exact ⟨ht,ht⟩)
 rw [if_pos rfl];rcases List.eq_nil_or_concat out with rfl|⟨r,i,rfl⟩
 ·exact h
 rw [List.concat_eq_append] at h ⊢;rw [ybp];intro j hj;rcases List.mem_append.1 hj with hj|hj
 ·exact h j (List.mem_append_left _ hj)
 simp at hj;subst hj;exact ⟨(h i (by simp)).1,ht⟩
theorem combB_pts {S:List K} {here btw:Bool} {t n:K} {out:List (Iv K)} (ht:t∈S) (hn:n∈S) (h:PtsIn S out):PtsIn S (yeU here btw t n out):=by
 unfold yeU;split
 ·exact h.app (fun i hi=>by simp at hi;subst hi;exact ⟨ht,hn⟩)
 exact h
theorem yha {S:List K} {H:K→Bool} {P:K→K→Bool}:∀ (l:List K) (op:Bool) (out:List (Iv K)),(∀ x∈l,x∈S)→PtsIn S out→PtsIn S (combL H P l op out)
 | [],_,_,_,h=>h
 | [t],op,out,hl,h=>ygG (hl t (by simp)) h
 | t :: n :: r,op,out,hl,h=>yha (n :: r) _ _ (fun x hx=>hl x (by simp at hx ⊢;exact .inr hx)) (combB_pts (hl t (by simp)) (hl n (by simp)) (ygG (hl t (by simp)) h))
theorem ydF {S:List K} {op:Int} {a b:List (Iv K)} (ha:PtsIn S a) (hb:PtsIn S b):PtsIn S (combK op a b):=by
 refine yha _ _ _ (fun x hx=>?_) (PtsIn.nil S);obtain⟨i,hi,h⟩:=ycg.1 (yeP.1 hx);have:=ha.app hb i hi;rcases h with rfl|rfl
 ·exact this.1
 exact this.2
theorem NormF.pair {l:List (Iv K)}:∀ {b:Bd K},NormF l b→(∀ i∈l,b<i.f)∧l.Pairwise (fun i j=>i.l<j.f):=by
 induction l with
 | nil=>intro b _;exact ⟨by simp,List.Pairwise.nil⟩
 | cons i l ih =>
  intro b h;obtain⟨h1,h2,h3⟩:=h;obtain⟨k1,k2⟩:=ih h3;refine ⟨fun j hj=>?_,List.pairwise_cons.2 ⟨k1,k2⟩⟩;rcases List.mem_cons.1 hj with rfl|hj
  ·exact h1
  have:=k1 j hj;grind
theorem NormF.val {l:List (Iv K)}:∀ {b:Bd K},NormF l b→∀ i∈l,i.f<i.l:=by
 induction l with
 | nil=>intro b _ i hi;cases hi
 | cons j l ih =>
  intro b h i hi;rcases List.mem_cons.1 hi with rfl|hi
  ·exact h.2.1
  exact ih h.2.2 i hi
theorem Norm.val {l:List (Iv K)} (h:Norm l):∀ i∈l,i.f<i.l:=by
 cases l with
 | nil=>intro i hi;cases hi
 | cons j l =>
  intro i hi;rcases List.mem_cons.1 hi with rfl|hi
  ·exact h.1
  exact h.2.val i hi
theorem Norm.pair {l:List (Iv K)} (h:Norm l):l.Pairwise (fun i j=>i.l<j.f):=by
 cases l with
 | nil=>exact List.Pairwise.nil
 | cons j l=>exact List.pairwise_cons.2 ⟨h.2.pair.1,h.2.pair.2⟩
theorem yfM {α:Type}:∀ {l m:List α},l.Nodup→(∀ x∈l,x∈m)→l.length≤m.length:=by
 intro l;induction l with
 | nil=>intro m _ _;simp
 | cons x l ih =>
  intro m h hs;obtain⟨h1,h2⟩:=List.nodup_cons.1 h;obtain⟨s,t,rfl⟩:=List.append_of_mem (hs x (by simp))
  have:=ih (m:=s++t) h2 (fun y hy=>by
   have h3:=hs y (by simp [hy]);rw [List.mem_append,List.mem_cons] at h3;rw [List.mem_append];rcases h3 with h3|h3|h3
   ·exact .inl h3
   ·subst h3;exact absurd hy h1
   exact .inr h3)
  simp at this ⊢;omega
theorem Norm.len {S:List K} {l:List (Iv K)} (h:Norm l) (hp:PtsIn S l):l.length≤2*S.length:=by
 have hv:=h.val
 have hn:(l.map Iv.f).Nodup:=by
  unfold List.Nodup;rw [List.pairwise_map];refine h.pair.imp_of_mem (fun {i j} hi hj hij he=>?_);have:=hv i hi;rw [he] at this;grind
 have hs:∀ x∈l.map Iv.f,x∈S.flatMap (fun s=>[(⟨s,false⟩:Bd K),⟨s,true⟩]):=fun x hx=>by
  obtain⟨i,hi,rfl⟩:=List.mem_map.1 hx;rw [List.mem_flatMap];refine ⟨_,(hp i hi).1,?_⟩;rcases hb:i.f with ⟨p,b⟩;cases b<;>simp
 have:=yfM hn hs
 have hl:(S.flatMap (fun s=>[(⟨s,false⟩:Bd K),⟨s,true⟩])).length=2*S.length:=by
  clear this hs hn hv hp h;induction S with
  | nil=>rfl
  | cons s S ih=>rw [List.flatMap_cons,List.length_append,ih];simp;omega
 rw [List.length_map,hl] at this;exact this
theorem yey {op:Int} {a b l:List (Iv K)} (hl:Norm l) (h:∀ x,hasL l x=decV op (hasL a x) (hasL b x)):combK op a b=l :=
 yfh (yau op a b) hl (fun x=>by rw [ybY,h])
noncomputable abbrev normK (l:List (Iv K)):List (Iv K):=combK 1 l []
theorem yhn (l:List (Iv K)) (x:Bd K):hasL (normK l) x=hasL l x:=by rw [ybY];simp [decV,ycV]
theorem yec {l:List (Iv K)} (h:Norm l):normK l=l:=yey h (fun x=>by simp [decV,ycV])
theorem hasL_ne {l:List (Iv K)} (h:Norm l):l=[]↔∀ x,hasL l x=false:=by
 constructor
 ·rintro rfl x;rfl
 exact fun hx=>yfh h (m:=[]) trivial (fun x=>by rw [hx];rfl)
theorem ydU {op:Int} {a b out:List (Iv K)} (h1:Norm out) (h2:∀ x,hasL out x=decV op (hasL a x) (hasL b x)):out=combK op a b:=(yey h1 h2).symm
theorem Union_c (a b:Bool) (w:World):Calls prog 123 #[.bool a,.bool b] w fun e w'=>e = .returned (.bool (decV 1 a b))∧Keep [] w w':=by
 cases a<;>cases b
 all_goals
  go_enter func123,ntmps123
  go_wp2_with fail;go_ret
  exact ⟨rfl,Keep.refl _ _⟩
theorem Union_pT (a b:List (Iv K)) (ha:∀ i∈a,i.f<i.l) (hb:∀ i∈b,i.f<i.l) (w:World) (sv tv:Value) (hr:IvR w sv a) (hs:IvR w tv b) (h9:a.length≤10000) (h8:b.length≤10000) :
  Calls prog 73 #[sv,tv] w fun e w'=>∃ v,e = .returned v∧IvR w' v (combK 1 a b)∧Keep [] w w'∧TyI w' v:=by
 have H:=jX (yfS (decV 1) 123 (enters_of func123 (by kernel_rfl) rfl) (fun x y w=>Union_c x y w) (ycH 1) a b ha hb w sv tv hr hs h9 h8);obtain⟨ao,ac,rfl,_⟩:=hr.form;obtain⟨bo,bc,rfl,_⟩:=hs.form;clear hr hs ha hb;go_enter func73,ntmps73
 go_wp2_with fail;refine H.out.mono ?_;rintro e w1 ⟨v,out,rfl,hv,h1,h2,hk,ht⟩;dsimp only;have HV:=jX (show IvR w1 v (combK 1 a b) by rw [← ydU h1 h2];exact hv)
 have HK:=jX hk;have HT:=jX ht;obtain⟨vo,vc,rfl,_⟩:=hv.form;clear hv h1 h2 hk ht;go_wp2_with fail;go_ret
 exact ⟨_,rfl,HV.out,HK.out,HT.out⟩
theorem Intersect_c (a b:Bool) (w:World):Calls prog 157 #[.bool a,.bool b] w fun e w'=>e = .returned (.bool (decV 2 a b))∧Keep [] w w':=by
 cases a<;>cases b
 all_goals
  go_enter func157,ntmps157
  go_wp2_with fail;go_ret
  exact ⟨rfl,Keep.refl _ _⟩
theorem Intersect_pT (a b:List (Iv K)) (ha:∀ i∈a,i.f<i.l) (hb:∀ i∈b,i.f<i.l) (w:World) (sv tv:Value) (hr:IvR w sv a) (hs:IvR w tv b) (h9:a.length≤10000) (h8:b.length≤10000) :
  Calls prog 108 #[sv,tv] w fun e w'=>∃ v,e = .returned v∧IvR w' v (combK 2 a b)∧Keep [] w w'∧TyI w' v:=by
 have H:=jX (yfS (decV 2) 157 (enters_of func157 (by kernel_rfl) rfl) (fun x y w=>Intersect_c x y w) (ycH 2) a b ha hb w sv tv hr hs h9 h8);obtain⟨ao,ac,rfl,_⟩:=hr.form;obtain⟨bo,bc,rfl,_⟩:=hs.form;clear hr hs ha hb;go_enter func108,ntmps108
 go_wp2_with fail;refine H.out.mono ?_;rintro e w1 ⟨v,out,rfl,hv,h1,h2,hk,ht⟩;dsimp only;have HV:=jX (show IvR w1 v (combK 2 a b) by rw [← ydU h1 h2];exact hv)
 have HK:=jX hk;have HT:=jX ht;obtain⟨vo,vc,rfl,_⟩:=hv.form;clear hv h1 h2 hk ht;go_wp2_with fail;go_ret
 exact ⟨_,rfl,HV.out,HK.out,HT.out⟩
theorem Intersect_p (a b:List (Iv K)) (ha:∀ i∈a,i.f<i.l) (hb:∀ i∈b,i.f<i.l) (w:World) (sv tv:Value) (hr:IvR w sv a) (hs:IvR w tv b) (h9:a.length≤10000) (h8:b.length≤10000) :
  Calls prog 108 #[sv,tv] w fun e w'=>∃ v,e = .returned v∧IvR w' v (combK 2 a b)∧Keep [] w w':=(Intersect_pT a b ha hb w sv tv hr hs h9 h8).mono fun _ _ ⟨v,h1,h2,h3,_⟩=>⟨v,h1,h2,h3⟩
theorem Minus_c (a b:Bool) (w:World):Calls prog 124 #[.bool a,.bool b] w fun e w'=>e = .returned (.bool (decV 3 a b))∧Keep [] w w':=by
 cases a<;>cases b
 all_goals
  go_enter func124,ntmps124
  go_wp2_with fail;go_ret
  exact ⟨rfl,Keep.refl _ _⟩
theorem Minus_pT (a b:List (Iv K)) (ha:∀ i∈a,i.f<i.l) (hb:∀ i∈b,i.f<i.l) (w:World) (sv tv:Value) (hr:IvR w sv a) (hs:IvR w tv b) (h9:a.length≤10000) (h8:b.length≤10000) :
  Calls prog 74 #[sv,tv] w fun e w'=>∃ v,e = .returned v∧IvR w' v (combK 3 a b)∧Keep [] w w'∧TyI w' v:=by
 have H:=jX (yfS (decV 3) 124 (enters_of func124 (by kernel_rfl) rfl) (fun x y w=>Minus_c x y w) (ycH 3) a b ha hb w sv tv hr hs h9 h8);obtain⟨ao,ac,rfl,_⟩:=hr.form;obtain⟨bo,bc,rfl,_⟩:=hs.form;clear hr hs ha hb;go_enter func74,ntmps74
 go_wp2_with fail;refine H.out.mono ?_;rintro e w1 ⟨v,out,rfl,hv,h1,h2,hk,ht⟩;dsimp only;have HV:=jX (show IvR w1 v (combK 3 a b) by rw [← ydU h1 h2];exact hv)
 have HK:=jX hk;have HT:=jX ht;obtain⟨vo,vc,rfl,_⟩:=hv.form;clear hv h1 h2 hk ht;go_wp2_with fail;go_ret
 exact ⟨_,rfl,HV.out,HK.out,HT.out⟩
theorem Minus_p (a b:List (Iv K)) (ha:∀ i∈a,i.f<i.l) (hb:∀ i∈b,i.f<i.l) (w:World) (sv tv:Value) (hr:IvR w sv a) (hs:IvR w tv b) (h9:a.length≤10000) (h8:b.length≤10000) :
  Calls prog 74 #[sv,tv] w fun e w'=>∃ v,e = .returned v∧IvR w' v (combK 3 a b)∧Keep [] w w':=(Minus_pT a b ha hb w sv tv hr hs h9 h8).mono fun _ _ ⟨v,h1,h2,h3,_⟩=>⟨v,h1,h2,h3⟩
theorem ydV (a:List (Iv K)) (ha:∀ i∈a,i.f<i.l) (w:World) (sv:Value) (hr:IvR w sv a) (h9:a.length≤10000) :
  Calls prog 105 #[sv] w fun e w'=>∃ v,e = .returned v∧IvR w' v (normK a)∧Keep [] w w'∧TyI w' v:=by
 have H:=jX (Union_pT a [] ha (by simp) w sv (.slice none 0 0) hr (RowE.nil w) h9 (by simp));obtain⟨ao,ac,rfl,_⟩:=hr.form;clear hr ha;go_enter func105,ntmps105
 go_wp2_with fail;refine H.out.mono ?_;rintro e w1 ⟨v,rfl,hv,hk,ht⟩;dsimp only;have HV:=jX hv;have HK:=jX hk;have HT:=jX ht;obtain⟨vo,vc,rfl,_⟩:=hv.form;clear hv hk ht;go_wp2_with fail;go_ret
 exact ⟨_,rfl,HV.out,HK.out,HT.out⟩
theorem ygP (a:List (Iv K)) (ha:∀ i∈a,i.f<i.l) (w:World) (sv:Value) (hr:IvR w sv a) (h9:a.length≤10000) :
  Calls prog 105 #[sv] w fun e w'=>∃ v,e = .returned v∧IvR w' v (normK a)∧Keep [] w w':=(ydV a ha w sv hr h9).mono fun _ _ ⟨v,h1,h2,h3,_⟩=>⟨v,h1,h2,h3⟩
def kQ (q:Rat) (h:FitQ 100000 q):K:=⟨⟨q,0,false⟩,⟨by show (0:Rat)≤0;grind,fun _=>rfl,fun h=>absurd rfl h⟩,h,fit0.mono (by decide)⟩
theorem cmp_frac (a b:Rat):cmpQ ⟨a,0,false⟩ ⟨b,0,false⟩=sgn (a-b):=by
 have h1:sg1 (a-b) (Qn.u ⟨a,0,false⟩) 0=sgn (a-b):=by
  unfold sg1;rw [sgn_zero,Int.mul_zero,if_pos (.inl rfl)]
 unfold cmpQ;dsimp only;rw [sgn_zero,Int.mul_zero,if_pos (.inl rfl),h1]
theorem kQ_lt {a b:Rat} {ha:FitQ 100000 a} {hb:FitQ 100000 b}:kQ a ha<kQ b hb↔a<b:=by
 rw [← K.cmp_neg];show cmpQ ⟨a,0,false⟩ ⟨b,0,false⟩ = -1↔_
 rw [cmp_frac];rcases yaX (a-b) with ⟨h,h2⟩|⟨h,h2⟩|⟨h,h2⟩<;>rw [h2]<;>constructor<;>intro h3<;>first|grind|(exact absurd h3 (by decide))
theorem fit_nat1 (n:Nat) (h:n<256):FitQ 1 (n:Rat):=by
 refine ⟨?_,?_⟩
 ·rw [Fit_iff]
  have e:(n:Rat).num=(n:Int):=rfl;rw [e]
  simpa using h
 rw [Fit_iff];have e:(n:Rat).den=1:=rfl;rw [e];decide
theorem yjp (n:Bool) (s d:ByteArray):prog.built 30 [(0,.agg #[.bool n,.string s,.bool false,.string d])]=some #[.bool n,.string s,.bool false,.string d,.bool false,.string ⟨#[]⟩,.bool false,.string ⟨#[]⟩,.bool false]:=by kernel_rfl
theorem kQ_C (q:Rat) (h:FitQ 100000 q):kC (kQ q h) = #[.bool (sgB q.num),.string (mgS q.num),.bool false,.string (dnS q.den),.bool false,.string ⟨#[]⟩,.bool false,.string ⟨#[]⟩,.bool false]:=by
 have h1:sgB (0:Rat).num=false:=by decide
 have h2:mgS (0:Rat).num=⟨#[]⟩:=yba.2 rfl;have h3:dnS (0:Rat).den=⟨#[]⟩:=by unfold dnS;rfl
 unfold kC kQ kcells;dsimp only;rw [h1,h2,h3]
theorem yie (q:Rat) (h:FitQ 100000 q):prog.built 30 [(0,rv q)]=some (kC (kQ q h)):=by
 rw [kQ_C];exact yjp _ _ _
section
theorem eqR_dec (x y:Qn):((((sgB x.p.num == sgB y.p.num)&&decide (mgS x.p.num=mgS y.p.num))&&((false == false)&&decide (dnS x.p.den=dnS y.p.den)))&&((((sgB x.r.num == sgB y.r.num)&&decide (mgS x.r.num=mgS y.r.num))&&((false == false)&&decide (dnS x.r.den=dnS y.r.den)))&&(x.neg == y.neg)))=(decide (x.p=y.p)&&(decide (x.r=y.r)&&(x.neg == y.neg))):=by
 rw [yed,yed]
theorem Qn.eq_dec (x y:Qn):(decide (x.p=y.p)&&(decide (x.r=y.r)&&(x.neg == y.neg)))=true↔x=y:=by
 obtain⟨p,r,n⟩:=x;obtain⟨p',r',n'⟩:=y;simp
theorem K.ext_iff {x y:K}:x=y↔x.1=y.1:=Subtype.ext_iff
open Classical in
theorem eqI_dec (i j:Iv K):((decide (i.f.pt.1.p=j.f.pt.1.p)&&(decide (i.f.pt.1.r=j.f.pt.1.r)&&(i.f.pt.1.neg == j.f.pt.1.neg)))&&((decide (i.l.pt.1.p=j.l.pt.1.p)&&(decide (i.l.pt.1.r=j.l.pt.1.r)&&(i.l.pt.1.neg == j.l.pt.1.neg)))&&((i.f.beh == j.f.beh)&&((!i.l.beh) == (!j.l.beh)))))=decide (i=j):=by
 rw [Bool.eq_iff_iff,decide_eq_true_iff,Bool.and_eq_true,Qn.eq_dec,Bool.and_eq_true,Qn.eq_dec,← K.ext_iff,← K.ext_iff];obtain⟨⟨a,b⟩,⟨c,d⟩⟩:=i;obtain⟨⟨a',b'⟩,⟨c',d'⟩⟩:=j;simp;constructor
 ·rintro ⟨rfl,rfl,rfl,h⟩
  exact ⟨⟨rfl,rfl⟩,rfl,h⟩
 rintro ⟨⟨rfl,rfl⟩,rfl,h⟩;exact ⟨rfl,rfl,rfl,h⟩
open Classical
theorem eqI_in (d:Nat) (x0 x1 x2 x3 x4 x5 x6 x7 x8 y0 y1 y2 y3 y4 y5 y6 y7 y8 u0 u1 u2 u3 u4 u5 u6 u7 u8 v0 v1 v2 v3 v4 v5 v6 v7 v8:Value) (o1 c1 o2 c2 k1 k2:Bool)
  (e1:∀ w,(Op.equalIn (d+4) 30 (.agg #[x0,x1,x2,x3,x4,x5,x6,x7,x8]) (.agg #[u0,u1,u2,u3,u4,u5,u6,u7,u8])).run prog w = .ok k1 w) (e2:∀ w,(Op.equalIn (d+4) 30 (.agg #[y0,y1,y2,y3,y4,y5,y6,y7,y8]) (.agg #[v0,v1,v2,v3,v4,v5,v6,v7,v8])).run prog w = .ok k2 w) (w:World) :
  (Op.equalIn (d+5) 32 (.agg #[x0,x1,x2,x3,x4,x5,x6,x7,x8,y0,y1,y2,y3,y4,y5,y6,y7,y8,.bool o1,.bool c1]) (.agg #[u0,u1,u2,u3,u4,u5,u6,u7,u8,v0,v1,v2,v3,v4,v5,v6,v7,v8,.bool o2,.bool c2])).run prog w = .ok (k1&&(k2&&((o1 == o2)&&(c1 == c2)))) w:=by
 have u3:=underlying30;have a3:=isAgg30;have z3:=sizeOf30;have u4:=underlying4;have aa4:=isAgg4;have z4:=sizeOf4;have hS:prog.underlying 32=some (.struct (prog.fieldsOf 32)):=by kernel_rfl
 have hp:prog.stoodInHeld 32=false:=by kernel_rfl
 rw [run_equalIn_agg w (d+4) 32 _ _ hS hp];simp only [Program.fieldsOf,underlying32];go_simp;cases k1<;>cases k2<;>cases o1<;>cases o2<;>cases c1<;>cases c2<;>simp
theorem eqI_g:prog.eqGuardType prog.depth 32=false:=by kernel_rfl
theorem eqI_at (i j:Iv K) (w:World):(Op.equalIn 10000 32 (iv i) (iv j)).run prog w = .ok (decide (i=j)) w:=by
 rw [yds,yds,show (10000:Nat)=9995+5 from rfl,eqI_in 9995 _ _ _ _ _ _ _ _ _ _ _ _ _ _ _ _ _ _ _ _ _ _ _ _ _ _ _ _ _ _ _ _ _ _ _ _ _ _ _ _ _ _ (fun w=>eqR_in 9995 _ _ _ _ _ _ _ _ _ _ _ _ _ _ _ _ _ _ w) (fun w=>eqR_in 9995 _ _ _ _ _ _ _ _ _ _ _ _ _ _ _ _ _ _ w),eqR_dec,eqR_dec,eqI_dec]
theorem neqI_run (i j:Iv K) (w:World):(binOp .neq 32 (iv i) (iv j)).run prog w = .ok (.bool (!decide (i=j))) w:=by
 have h:=eqI_at i j w;unfold iv at *;rw [run_neq_struct,h];rfl
end
section
open Classical
theorem ygF {C:World→Prop} {o:Oper} {a:Act} {K:Act→Prop} (op:BinOp) (t:TypeId) (x y:Operand) (s:TypeId) (cx cy:Array Value) (v:Value) (ho:o.op = .binOp op t x y s) (hx:a.eval x = .agg cx) (hy:a.eval y = .agg cy) (hg:prog.eqGuardType prog.depth t=false)
  (h:∀ w,(binOp op t (.agg cx) (.agg cy)).run prog w = .ok v w) (hk:K (a.put o.dst v)):o.quiet prog a C K :=
 ⟨v,fun w hw=>by
  unfold Oper.quietAt execOp;simp only [ho,hx,hy,Sem.run_bind,run_eqGuard_agg (hm:=hg),Result.andThen_ok,h w,Sem.run_pure]
  exact ⟨rfl,rfl⟩,hk⟩
end
section
open Classical
structure RawR where
 a1:Bool
 a2:ByteArray
 a3:Bool
 a4:ByteArray
 b1:Bool
 b2:ByteArray
 b3:Bool
 b4:ByteArray
 n:Bool
def RawR.cells (x:RawR):List Value:=[.bool x.a1,.string x.a2,.bool x.a3,.string x.a4,.bool x.b1,.string x.b2,.bool x.b3,.string x.b4,.bool x.n]
def RawR.v (x:RawR):Value:=.agg #[.bool x.a1,.string x.a2,.bool x.a3,.string x.a4,.bool x.b1,.string x.b2,.bool x.b3,.string x.b4,.bool x.n]
def RawR.of (x:Qn):RawR:=⟨sgB x.p.num,mgS x.p.num,false,dnS x.p.den,sgB x.r.num,mgS x.r.num,false,dnS x.r.den,x.neg⟩
def RawR.isK (x:RawR):Prop:=∃ q:Qn,q.Ok∧x=RawR.of q
def RawR.sz (x:RawR) (k:Nat):Prop:=x.a2.size≤k∧x.a4.size≤k∧x.b2.size≤k∧x.b4.size≤k
theorem RawR.of_inj {x y:Qn} (h:RawR.of x=RawR.of y):x=y:=by
 unfold RawR.of at h;injection h with h1 h2 h3 h4 h5 h6 h7 h8 h9
 have hp:x.p=y.p:=by
  have:=(yed x.p y.p).symm;rw [h1,h2,h4] at this
  simpa using this
 have hr:x.r=y.r:=by
  have:=(yed x.r y.r).symm;rw [h5,h6,h8] at this
  simpa using this
 cases x;cases y;simp_all
end
section
open Classical
theorem yeJ (x y:K):prog.built 32 [(0,kv x),(1,kv y)]=some (iC ⟨⟨x,false⟩,⟨y,true⟩⟩):=iv_b01 x y
theorem covers_c (a b:List (Iv K)) (ha:∀ i∈a,i.f<i.l) (hb:∀ i∈b,i.f<i.l) (w:World) (sv tv:Value) (hr:IvR w sv a) (hs:IvR w tv b) (h9:a.length≤10000) (h8:b.length≤10000) :
  Calls prog 50 #[sv,tv] w fun e w'=>e = .returned (.bool (decide (combK 3 b a=[])))∧Keep [] w w':=by
 have H:=jX (Minus_p b a hb ha w tv sv hs hr h8 h9);obtain⟨ao,ac,rfl,_⟩:=hr.form;obtain⟨bo,bc,rfl,_⟩:=hs.form;clear hr hs ha hb;go_enter func50,ntmps50
 go_wp2_with fail;refine H.out.mono ?_;rintro e w1 ⟨v,rfl,hv,hk⟩;dsimp only;have HK:=jX hk;obtain⟨vo,vc,rfl,_⟩:=hv.form;obtain⟨r,hr⟩:∃ r,decide (combK 3 b a=[])=r:=⟨_,rfl⟩
 have hd:(((combK 3 b a).length:Int) == 0)=r:=by
  rw [← hr,Bool.eq_iff_iff,beq_iff_eq,decide_eq_true_iff,← List.length_eq_zero_iff];omega
 have HRr:=jX hr;clear hv hk H hr;generalize (combK 3 b a).length=n at *;go_wp2_with fail;go_ret
 exact ⟨by rw [HRr.out];rfl,HK.out⟩
end
section
open Classical
def mvQ (x:Qn) (q:Rat):Qn:=⟨x.p+q,x.r,x.neg⟩
def rcells (q:Rat):List Value:=[.bool (sgB q.num),.string (mgS q.num),.bool false,.string (dnS q.den)]
def rC (q:Rat):Array Value:=(rcells q).toArray
theorem yam (q:Rat):rv q = .agg (rC q):=rfl
theorem infoRat:∃ ie,prog.info? 28=some ie∧ie.size=4:=by
 have h:(prog.info? 28).map (·.size)=some 4:=by kernel_rfl
 cases hi:prog.info? 28 with
 | none=>rw [hi] at h;cases h
 | some ie=>rw [hi] at h;exact ⟨ie,rfl,by simpa using h⟩
theorem ycw {w:World} {g:Nat} {q:Rat} {t:TypeId} (h:w.heap[g]? = some (.cells (rC q) t)):(loadVar 28 ⟨g,0,none⟩).run prog w = .ok (rv q) w:=by
 obtain⟨ie,hie,hs⟩:=infoRat;refine Go.Lib.rl_loadVar_cells 28 ie hie isAgg28 g 0 (rcells q) (by rw [hs];rfl) w (fun k v hk=>?_);rw [Nat.zero_add,yab h];exact (List.getElem?_toArray ..).trans hk
theorem kw_q {w:World} {g:Nat} {q:Rat} {t:TypeId} (h:w.heap[g]? = some (.cells (rC q) t)):∀ m:KW w,(loadVar 28 ⟨g,0,none⟩).run prog (Wk w m) = .ok (rv q) (Wk w m) :=
 fun m=>ycw (m.k.heap h (by simp))
end
section
open Classical
theorem mvQ_ok {x:Qn} (h:x.Ok) (q:Rat):(mvQ x q).Ok:=⟨h.nn,h.zero,h.sq⟩
noncomputable def mvK (q:Rat) (x:K):K:=if h:FitR 100000 (mvQ x.1 q) then ⟨mvQ x.1 q,mvQ_ok x.2.1 q,h⟩ else x
noncomputable def mvI (q:Rat) (i:Iv K):Iv K:=⟨⟨mvK q i.f.pt,i.f.beh⟩,⟨mvK q i.l.pt,i.l.beh⟩⟩
def Sm (k:Nat) (x:K):Prop:=FitR k x.1
def SmI (k:Nat) (i:Iv K):Prop:=Sm k i.f.pt∧Sm k i.l.pt
theorem Sm.fit {k:Nat} {x:K} {q:Rat} (h:Sm k x) (hq:FitQ 24 q):FitR (k+25) (mvQ x.1 q) :=
 ⟨(FitQ.add h.1 hq).mono (by omega),h.2.mono (by omega)⟩
theorem yaS {k:Nat} {x:K} {q:Rat} (h:Sm k x) (hk:k≤90000) (hq:FitQ 24 q):(mvK q x).1=mvQ x.1 q:=by
 have hf:=h.fit hq;have hf2:FitR 100000 (mvQ x.1 q):=⟨hf.1.mono (by omega),hf.2.mono (by omega)⟩;unfold mvK;rw [dif_pos hf2]
theorem ycG {k:Nat} {x:K} {q:Rat} (h:Sm k x) (hk:k≤90000) (hq:FitQ 24 q):Sm (k+25) (mvK q x):=by
 unfold Sm;rw [yaS h hk hq];exact h.fit hq
theorem mvI_sm {k:Nat} {i:Iv K} {q:Rat} (h:SmI k i) (hk:k≤90000) (hq:FitQ 24 q):SmI (k+25) (mvI q i):=⟨ycG h.1 hk hq,ycG h.2 hk hq⟩
theorem yfK {k:Nat} {x:K} {q:Rat} (h:Sm k x) (hk:k≤80000) (hq:FitQ 24 q):mvK (-q) (mvK q x)=x:=by
 refine Subtype.ext ?_;rw [yaS (ycG h (by omega) hq) (by omega) hq.neg,yaS h (by omega) hq];unfold mvQ;have e:x.1.p+q + -q=x.1.p:=by grind
 rw [e]
theorem kcells_mv {k:Nat} {x:K} {q:Rat} (h:Sm k x) (hk:k≤90000) (hq:FitQ 24 q):kC (mvK q x)=(kcells (mvQ x.1 q)).toArray:=by
 unfold kC;rw [yaS h hk hq]
end
section
open Classical
section
variable {S:List K} {w0 w w':World} {L:List (Value × List (Iv K))}
variable {v u:Value} {a b:List (Iv K)}
end
theorem dec2 (a b:Bool):decV 2 a b=(a&&b):=rfl
end
def SubL (T D:List (Iv K)):Prop:=∀ x,hasL T x=true→hasL D x=true
section
variable {D T E U G V P:List (Iv K)}
end
end Go.Proofs.YtpgffjjpiafhpaaGreatDoor
