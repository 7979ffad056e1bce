/- Parts of a proof: Pm Te Sv Tm Pn Ue Uf Sw Sx Ug. -/
import Derived.Deep.CutBlock
import Derived.IntWalk
import Derived.Test.YtpgffjjpiafhpaaGreatDoorJ21
import Derived.Test.YtpgffjjpiafhpaaGreatDoorJ02
import Derived.Test.YtpgffjjpiafhpaaGreatDoorJ22
import Derived.Test.YtpgffjjpiafhpaaGreatDoorJ24
import Derived.Test.YtpgffjjpiafhpaaGreatDoorJ26
import Derived.Test.YtpgffjjpiafhpaaGreatDoorJ23
import Derived.Test.YtpgffjjpiafhpaaGreatDoorJ27
import Derived.Test.YtpgffjjpiafhpaaGreatDoorJ25
import Derived.Test.YtpgffjjpiafhpaaGreatDoorJ18
import Derived.Test.YtpgffjjpiafhpaaGreatDoorJ20
import Derived.Test.YtpgffjjpiafhpaaGreatDoorJ19
set_option linter.unusedVariables false
set_option linter.unusedSimpArgs false
set_option linter.unusedSectionVars false
set_option maxRecDepth 100000
set_option maxHeartbeats 8000000
namespace Go.Proofs.YtpgffjjpiafhpaaGreatDoor
open Go.RowKit Tryz
section
open Classical
variable {α:Type} [LE α] [LT α] [Std.LawfulOrderLT α] [Std.IsLinearOrder α]
noncomputable def insS (x:α):List α→List α
 | []=>[x]
 | y :: r=>if y<x then y :: insS x r else if y=x then y :: r else x :: y :: r
noncomputable def sortS (l:List α):List α:=l.foldl (fun out x=>insS x out) []
theorem yim {x z:α} (l:List α):z∈insS x l↔z=x∨z∈l:=by
 induction l with
 | nil=>simp [insS]
 | cons y r ih =>
  unfold insS;by_cases h1:y<x
  ·rw [if_pos h1,List.mem_cons,ih,List.mem_cons]
   constructor
   ·rintro (h|h|h)<;>simp [h]
   rintro (h|h|h)<;>simp [h]
  rw [if_neg h1];by_cases h2:y=x
  ·rw [if_pos h2,List.mem_cons]
   subst h2;simp
  rw [if_neg h2,List.mem_cons]
theorem insS_ord {x:α} {l:List α} (h:l.Pairwise (· < ·)):(insS x l).Pairwise (· < ·):=by
 induction l with
 | nil=>simp [insS]
 | cons y r ih =>
  obtain⟨h1,h2⟩:=List.pairwise_cons.1 h;unfold insS;by_cases h3:y<x
  ·rw [if_pos h3,List.pairwise_cons]
   refine ⟨fun z hz=>?_,ih h2⟩;rcases (yim r).1 hz with rfl|hz
   ·exact h3
   exact h1 z hz
  rw [if_neg h3];by_cases h4:y=x
  ·rw [if_pos h4];exact h
  rw [if_neg h4,List.pairwise_cons];refine ⟨fun z hz=>?_,h⟩;rcases List.mem_cons.1 hz with rfl|hz
  ·grind
  have:=h1 z hz;grind
theorem ygG (l:List α):∀ out:List α,out.Pairwise (· < ·)→(l.foldl (fun out x=>insS x out) out).Pairwise (· < ·)∧∀ z,z∈l.foldl (fun out x=>insS x out) out↔z∈out∨z∈l:=by
 induction l with
 | nil=>intro out h;exact ⟨h,by simp⟩
 | cons x l ih =>
  intro out h;obtain⟨h1,h2⟩:=ih (insS x out) (insS_ord h);refine ⟨h1,fun z=>?_⟩;rw [List.foldl_cons,h2,yim,List.mem_cons];constructor
  ·rintro ((h|h)|h)<;>simp [h]
  rintro (h|h|h)<;>simp [h]
theorem sortS_ord (l:List α):(sortS l).Pairwise (· < ·):=(ygG l [] List.Pairwise.nil).1
theorem yeK {l:List α} {z:α}:z∈sortS l↔z∈l:=by rw [sortS,(ygG l [] List.Pairwise.nil).2];simp
end
section
open Classical
def ptsL (l:List (Iv K)):List K:=l.flatMap fun i=>[i.f.pt,i.l.pt]
end
def decV (op:Int) (a b:Bool):Bool:=if op=1 then a || b else if op=2 then a&&b else a && !b
theorem ydG (op:Int):decV op false false=false:=by unfold decV;split<;>(try split)<;>rfl
section
open Classical
theorem OE.lt {α:Type} {enc:α→List Value} {e:TypeId} {k:Nat} {w0 w:World} {v:Value} {l:List α} (h:OE enc e k w0 w v l):∀ g,v.ownBlock=some g→g<w.heap.size:=by
 intro g hg;rcases h.row.2 with ⟨rfl,_⟩|⟨g',cap,cur,rfl,hb,hgg,_⟩
 ·cases hg
 simp [Value.ownBlock] at hg;subst hg;exact yaa hgg
theorem iv_b01r (f1 f4 f7 t1 t4 t7:Bool) (f2 f3 f5 f6 t2 t3 t5 t6:ByteArray):prog.built 32 [(0,.agg #[.bool f1,.string f2,.bool false,.string f3,.bool f4,.string f5,.bool false,.string f6,.bool f7]),(1,.agg #[.bool t1,.string t2,.bool false,.string t3,.bool t4,.string t5,.bool false,.string t6,.bool t7])]=some #[.bool f1,.string f2,.bool false,.string f3,.bool f4,.string f5,.bool false,.string f6,.bool f7,.bool t1,.string t2,.bool false,.string t3,.bool t4,.string t5,.bool false,.string t6,.bool t7,.bool false,.bool false]:=by kernel_rfl
theorem yis (x y:K):prog.built 32 [(0,kv x),(1,kv y)]=some (iC ⟨⟨x,false⟩,⟨y,true⟩⟩):=iv_b01r _ _ _ _ _ _ _ _ _ _ _ _ _ _
end
noncomputable def ydn (op:Int) (a b:List (Iv K)):List (Iv K):=cells (decV op) a b (sortS (ptsL (a++b)))
theorem yfS {l:List (Iv K)} {x:K}:x∈ptsL l↔∃ i∈l,x=i.f.pt∨x=i.l.pt:=by
 unfold ptsL;rw [List.mem_flatMap];simp
theorem ydg {l a:List (Iv K)} (h:∀ i∈a,i∈l):EndsOf (sortS (ptsL l)) a :=
 ⟨sortS_ord _,fun i hi=>yeK.2 (yfS.2 ⟨i,h i hi,.inl rfl⟩),fun i hi=>yeK.2 (yfS.2 ⟨i,h i hi,.inr rfl⟩)⟩
theorem yjg (op:Int) (a b:List (Iv K)):Norm (ydn op a b) :=
 (ygZ (ydG op) (ydg (l:=a++b) (fun i hi=>List.mem_append_left _ hi)) (ydg (l:=a++b) (fun i hi=>List.mem_append_right _ hi))).1
theorem combK_has (op:Int) (a b:List (Iv K)) (x:Bd K):hasL (ydn op a b) x=decV op (hasL a x) (hasL b x) :=
 (ygZ (ydG op) (ydg (l:=a++b) (fun i hi=>List.mem_append_left _ hi)) (ydg (l:=a++b) (fun i hi=>List.mem_append_right _ hi))).2 x
def PtsIn (S:List K) (l:List (Iv K)):Prop:=∀ i∈l,i.f.pt∈S∧i.l.pt∈S
theorem PtsIn.mono {S T:List K} {l:List (Iv K)} (h:PtsIn S l) (hT:∀ x∈S,x∈T):PtsIn T l:=fun i hi=>⟨hT _ (h i hi).1,hT _ (h i hi).2⟩
theorem PtsIn.nil (S:List K):PtsIn S []:=fun _ h=>by cases h
theorem PtsIn.app {S:List K} {l m:List (Iv K)} (h:PtsIn S l) (k:PtsIn S m):PtsIn S (l++m):=fun i hi=>by
 rcases List.mem_append.1 hi with hi|hi
 ·exact h i hi
 exact k i hi
theorem PtsIn.sub {S:List K} {l m:List (Iv K)} (h:PtsIn S l) (hm:∀ i∈m,i∈l):PtsIn S m:=fun i hi=>h i (hm i hi)
theorem ygP {S:List K} {here op:Bool} {t:K} {out:List (Iv K)} (ht:t∈S) (h:PtsIn S out):PtsIn S (ydT here op t out):=by
 unfold ydT;cases op
 ·cases here
  ·exact h
  exact h.app (fun i hi=>by simp at hi;subst hi;exact ⟨ht,ht⟩)
 rw [if_pos rfl];rcases List.eq_nil_or_concat out with rfl|⟨r,i,rfl⟩
 ·exact h
 rw [List.concat_eq_append] at h ⊢;rw [ybq];intro j hj;rcases List.mem_append.1 hj with hj|hj
 ·exact h j (List.mem_append_left _ hj)
 simp at hj;subst hj;exact ⟨(h i (by simp)).1,ht⟩
theorem combB_pts {S:List K} {here btw:Bool} {t n:K} {out:List (Iv K)} (ht:t∈S) (hn:n∈S) (h:PtsIn S out):PtsIn S (yeL here btw t n out):=by
 unfold yeL;split
 ·exact h.app (fun i hi=>by simp at hi;subst hi;exact ⟨ht,hn⟩)
 exact h
theorem yhf {S:List K} {H:K→Bool} {P:K→K→Bool}:∀ (l:List K) (op:Bool) (out:List (Iv K)),(∀ x∈l,x∈S)→PtsIn S out→PtsIn S (combL H P l op out)
 | [],_,_,_,h=>h
 | [t],op,out,hl,h=>ygP (hl t (by simp)) h
 | t :: n :: r,op,out,hl,h=>yhf (n :: r) _ _ (fun x hx=>hl x (by simp at hx ⊢;exact .inr hx)) (combB_pts (hl t (by simp)) (hl n (by simp)) (ygP (hl t (by simp)) h))
theorem combK_pts {S:List K} {op:Int} {a b:List (Iv K)} (ha:PtsIn S a) (hb:PtsIn S b):PtsIn S (ydn op a b):=by
 refine yhf _ _ _ (fun x hx=>?_) (PtsIn.nil S);obtain⟨i,hi,h⟩:=yfS.1 (yeK.1 hx);have:=ha.app hb i hi;rcases h with rfl|rfl
 ·exact this.1
 exact this.2
theorem NormF.pair {l:List (Iv K)}:∀ {b:Bd K},NormF l b→(∀ i∈l,b<i.f)∧l.Pairwise (fun i j=>i.l<j.f):=by
 induction l with
 | nil=>intro b _;exact ⟨by simp,List.Pairwise.nil⟩
 | cons i l ih =>
  intro b h;obtain⟨h1,h2,h3⟩:=h;obtain⟨k1,k2⟩:=ih h3;refine ⟨fun j hj=>?_,List.pairwise_cons.2 ⟨k1,k2⟩⟩;rcases List.mem_cons.1 hj with rfl|hj
  ·exact h1
  have:=k1 j hj;grind
theorem NormF.val {l:List (Iv K)}:∀ {b:Bd K},NormF l b→∀ i∈l,i.f<i.l:=by
 induction l with
 | nil=>intro b _ i hi;cases hi
 | cons j l ih =>
  intro b h i hi;rcases List.mem_cons.1 hi with rfl|hi
  ·exact h.2.1
  exact ih h.2.2 i hi
theorem Norm.val {l:List (Iv K)} (h:Norm l):∀ i∈l,i.f<i.l:=by
 cases l with
 | nil=>intro i hi;cases hi
 | cons j l =>
  intro i hi;rcases List.mem_cons.1 hi with rfl|hi
  ·exact h.1
  exact h.2.val i hi
theorem Norm.pair {l:List (Iv K)} (h:Norm l):l.Pairwise (fun i j=>i.l<j.f):=by
 cases l with
 | nil=>exact List.Pairwise.nil
 | cons j l=>exact List.pairwise_cons.2 ⟨h.2.pair.1,h.2.pair.2⟩
theorem NormF.of {l:List (Iv K)}:∀ {b:Bd K},(∀ i∈l,b<i.f)→(∀ i∈l,i.f<i.l)→l.Pairwise (fun i j=>i.l<j.f)→NormF l b:=by
 induction l with
 | nil=>intro b _ _ _;trivial
 | cons i l ih =>
  intro b h1 h2 h3;obtain⟨h4,h5⟩:=List.pairwise_cons.1 h3;exact ⟨h1 i (by simp),h2 i (by simp),ih h4 (fun j hj=>h2 j (by simp [hj])) h5⟩
theorem Norm.of {l:List (Iv K)} (h2:∀ i∈l,i.f<i.l) (h3:l.Pairwise (fun i j=>i.l<j.f)):Norm l:=by
 cases l with
 | nil=>trivial
 | cons i l =>
  obtain⟨h4,h5⟩:=List.pairwise_cons.1 h3;exact ⟨h2 i (by simp),NormF.of h4 (fun j hj=>h2 j (by simp [hj])) h5⟩
theorem yge {α:Type}:∀ {l m:List α},l.Nodup→(∀ x∈l,x∈m)→l.length≤m.length:=by
 intro l;induction l with
 | nil=>intro m _ _;simp
 | cons x l ih =>
  intro m h hs;obtain⟨h1,h2⟩:=List.nodup_cons.1 h;obtain⟨s,t,rfl⟩:=List.append_of_mem (hs x (by simp))
  have:=ih (m:=s++t) h2 (fun y hy=>by
   have h3:=hs y (by simp [hy]);rw [List.mem_append,List.mem_cons] at h3;rw [List.mem_append];rcases h3 with h3|h3|h3
   ·exact .inl h3
   ·subst h3;exact absurd hy h1
   exact .inr h3)
  simp at this ⊢;omega
theorem Norm.len {S:List K} {l:List (Iv K)} (h:Norm l) (hp:PtsIn S l):l.length≤2*S.length:=by
 have hv:=h.val
 have hn:(l.map Iv.f).Nodup:=by
  unfold List.Nodup;rw [List.pairwise_map];refine h.pair.imp_of_mem (fun {i j} hi hj hij he=>?_);have:=hv i hi;rw [he] at this;grind
 have hs:∀ x∈l.map Iv.f,x∈S.flatMap (fun s=>[(⟨s,false⟩:Bd K),⟨s,true⟩]):=fun x hx=>by
  obtain⟨i,hi,rfl⟩:=List.mem_map.1 hx;rw [List.mem_flatMap];refine ⟨_,(hp i hi).1,?_⟩;rcases hb:i.f with ⟨p,b⟩;cases b<;>simp
 have:=yge hn hs
 have hl:(S.flatMap (fun s=>[(⟨s,false⟩:Bd K),⟨s,true⟩])).length=2*S.length:=by
  clear this hs hn hv hp h;induction S with
  | nil=>rfl
  | cons s S ih=>rw [List.flatMap_cons,List.length_append,ih];simp;omega
 rw [List.length_map,hl] at this;exact this
structure Per (S:List K) (l:List (Iv K)):Prop where
 norm:Norm l
 pts:PtsIn S l
theorem Per.len {S:List K} {l:List (Iv K)} (h:Per S l):l.length≤2*S.length:=h.norm.len h.pts
theorem Per.nil (S:List K):Per S []:=⟨trivial,PtsIn.nil S⟩
theorem yfP {op:Int} {a b l:List (Iv K)} (hl:Norm l) (h:∀ x,hasL l x=decV op (hasL a x) (hasL b x)):ydn op a b=l :=
 yhJ (yjg op a b) hl (fun x=>by rw [combK_has,h])
noncomputable abbrev normK (l:List (Iv K)):List (Iv K):=ydn 1 l []
theorem yfr {op:Int} {a b out:List (Iv K)} (h1:Norm out) (h2:∀ x,hasL out x=decV op (hasL a x) (hasL b x)):out=ydn op a b:=(yfP h1 h2).symm
theorem Union_c (a b:Bool) (w:World):Calls prog 123 #[.bool a,.bool b] w fun e w'=>e = .returned (.bool (decV 1 a b))∧Keep [] w w':=by
 cases a<;>cases b
 all_goals
  go_enter func123,ntmps123
  go_wp2_with fail;go_ret
  exact ⟨rfl,Keep.refl _ _⟩
theorem Union_pT (a b:List (Iv K)) (ha:∀ i∈a,i.f<i.l) (hb:∀ i∈b,i.f<i.l) (w:World) (sv tv:Value) (hr:IvR w sv a) (hs:IvR w tv b) (h9:a.length≤10000) (h8:b.length≤10000) :
  Calls prog 73 #[sv,tv] w fun e w'=>∃ v,e = .returned v∧IvR w' v (ydn 1 a b)∧Keep [] w w'∧TyI w' v:=by
 have H:=jX (yiL (decV 1) 123 (enters_of func123 (by kernel_rfl) rfl) (fun x y w=>Union_c x y w) (ydG 1) a b ha hb w sv tv hr hs h9 h8);obtain⟨ao,ac,rfl,_⟩:=hr.form;obtain⟨bo,bc,rfl,_⟩:=hs.form;clear hr hs ha hb;go_enter func73,ntmps73
 go_wp2_with fail;refine H.out.mono ?_;rintro e w1 ⟨v,out,rfl,hv,h1,h2,hk,ht⟩;dsimp only;have HV:=jX (show IvR w1 v (ydn 1 a b) by rw [← yfr h1 h2];exact hv)
 have HK:=jX hk;have HT:=jX ht;obtain⟨vo,vc,rfl,_⟩:=hv.form;clear hv h1 h2 hk ht;go_wp2_with fail;go_ret
 exact ⟨_,rfl,HV.out,HK.out,HT.out⟩
theorem Union_p (a b:List (Iv K)) (ha:∀ i∈a,i.f<i.l) (hb:∀ i∈b,i.f<i.l) (w:World) (sv tv:Value) (hr:IvR w sv a) (hs:IvR w tv b) (h9:a.length≤10000) (h8:b.length≤10000) :
  Calls prog 73 #[sv,tv] w fun e w'=>∃ v,e = .returned v∧IvR w' v (ydn 1 a b)∧Keep [] w w':=(Union_pT a b ha hb w sv tv hr hs h9 h8).mono fun _ _ ⟨v,h1,h2,h3,_⟩=>⟨v,h1,h2,h3⟩
theorem Minus_c (a b:Bool) (w:World):Calls prog 124 #[.bool a,.bool b] w fun e w'=>e = .returned (.bool (decV 3 a b))∧Keep [] w w':=by
 cases a<;>cases b
 all_goals
  go_enter func124,ntmps124
  go_wp2_with fail;go_ret
  exact ⟨rfl,Keep.refl _ _⟩
theorem Minus_pT (a b:List (Iv K)) (ha:∀ i∈a,i.f<i.l) (hb:∀ i∈b,i.f<i.l) (w:World) (sv tv:Value) (hr:IvR w sv a) (hs:IvR w tv b) (h9:a.length≤10000) (h8:b.length≤10000) :
  Calls prog 74 #[sv,tv] w fun e w'=>∃ v,e = .returned v∧IvR w' v (ydn 3 a b)∧Keep [] w w'∧TyI w' v:=by
 have H:=jX (yiL (decV 3) 124 (enters_of func124 (by kernel_rfl) rfl) (fun x y w=>Minus_c x y w) (ydG 3) a b ha hb w sv tv hr hs h9 h8);obtain⟨ao,ac,rfl,_⟩:=hr.form;obtain⟨bo,bc,rfl,_⟩:=hs.form;clear hr hs ha hb;go_enter func74,ntmps74
 go_wp2_with fail;refine H.out.mono ?_;rintro e w1 ⟨v,out,rfl,hv,h1,h2,hk,ht⟩;dsimp only;have HV:=jX (show IvR w1 v (ydn 3 a b) by rw [← yfr h1 h2];exact hv)
 have HK:=jX hk;have HT:=jX ht;obtain⟨vo,vc,rfl,_⟩:=hv.form;clear hv h1 h2 hk ht;go_wp2_with fail;go_ret
 exact ⟨_,rfl,HV.out,HK.out,HT.out⟩
theorem Minus_p (a b:List (Iv K)) (ha:∀ i∈a,i.f<i.l) (hb:∀ i∈b,i.f<i.l) (w:World) (sv tv:Value) (hr:IvR w sv a) (hs:IvR w tv b) (h9:a.length≤10000) (h8:b.length≤10000) :
  Calls prog 74 #[sv,tv] w fun e w'=>∃ v,e = .returned v∧IvR w' v (ydn 3 a b)∧Keep [] w w':=(Minus_pT a b ha hb w sv tv hr hs h9 h8).mono fun _ _ ⟨v,h1,h2,h3,_⟩=>⟨v,h1,h2,h3⟩
def kQ (q:Rat) (h:FitQ 100000 q):K:=⟨⟨q,0,false⟩,⟨by show (0:Rat)≤0;grind,fun _=>rfl,fun h=>absurd rfl h⟩,h,fit0.mono (by decide)⟩
theorem cmp_frac (a b:Rat):cmpQ ⟨a,0,false⟩ ⟨b,0,false⟩=sgn (a-b):=by
 have h1:sg1 (a-b) (Qn.u ⟨a,0,false⟩) 0=sgn (a-b):=by
  unfold sg1;rw [sgn_zero,Int.mul_zero,if_pos (.inl rfl)]
 unfold cmpQ;dsimp only;rw [sgn_zero,Int.mul_zero,if_pos (.inl rfl),h1]
theorem kQ_lt {a b:Rat} {ha:FitQ 100000 a} {hb:FitQ 100000 b}:kQ a ha<kQ b hb↔a<b:=by
 rw [← K.cmp_neg];show cmpQ ⟨a,0,false⟩ ⟨b,0,false⟩ = -1↔_
 rw [cmp_frac];rcases yaJ (a-b) with ⟨h,h2⟩|⟨h,h2⟩|⟨h,h2⟩<;>rw [h2]<;>constructor<;>intro h3<;>first|grind|(exact absurd h3 (by decide))
theorem yiH (n:Nat) (h:n<256):FitQ 1 (n:Rat):=by
 refine ⟨?_,?_⟩
 ·rw [Fit_iff]
  have e:(n:Rat).num=(n:Int):=rfl;rw [e]
  simpa using h
 rw [Fit_iff];have e:(n:Rat).den=1:=rfl;rw [e];decide
theorem yhO (n:Nat) (h:n<256):FitQ 100000 (n:Rat):=(yiH n h).mono (by decide)
def kN (n:Nat) (h:n<256):K:=kQ n (yhO n h)
theorem kN_lt {m n:Nat} {hm:m<256} {hn:n<256}:kN m hm<kN n hn↔m<n:=by
 unfold kN;rw [kQ_lt]
 exact_mod_cast Iff.rfl
theorem yjc (n:Nat):Rat.divInt (n:Int) 1=(n:Rat):=by
 exact Rat.num_divInt_den (n:Rat)
theorem yjn (n:Bool) (s d:ByteArray):prog.built 30 [(0,.agg #[.bool n,.string s,.bool false,.string d])]=some #[.bool n,.string s,.bool false,.string d,.bool false,.string ⟨#[]⟩,.bool false,.string ⟨#[]⟩,.bool false]:=by kernel_rfl
theorem kQ_C (q:Rat) (h:FitQ 100000 q):kC (kQ q h) = #[.bool (sgB q.num),.string (mgS q.num),.bool false,.string (dnS q.den),.bool false,.string ⟨#[]⟩,.bool false,.string ⟨#[]⟩,.bool false]:=by
 have h1:sgB (0:Rat).num=false:=by decide
 have h2:mgS (0:Rat).num=⟨#[]⟩:=ybn.2 rfl;have h3:dnS (0:Rat).den=⟨#[]⟩:=by unfold dnS;rfl
 unfold kC kQ kcells;dsimp only;rw [h1,h2,h3]
theorem ybE (q:Rat) (h:FitQ 100000 q):prog.built 30 [(0,rv q)]=some (kC (kQ q h)):=by
 rw [kQ_C];exact yjn _ _ _
theorem yez (n:Nat) (hn:n<256) (w:World):Calls prog 72 #[.int .i64 (n:Int)] w fun e w'=>e = .returned (kv (kN n hn))∧Keep [] w w':=by
 have H:=jX (fun w=>rof_c (n:Int) 1 (by decide) (by omega) (by omega) (by decide) (by decide) w);rw [yjc] at H;have HB:=jX (ybE (n:Rat) (yhO n hn));have HS:Hid ((kC (kN n hn)).size=9):=rfl;have HO:=jX (all_oneCell_toArray (ybV (kN n hn).1));have HL:=jX (fun w g (h:w.heap[g]? = some (.cells (kC (kN n hn)) 30))=>yba w g 0 _ (ygl h));rw [show qv (kN n hn).1=kv (kN n hn) from rfl] at HL
 rw [show kQ (n:Rat) (yhO n hn)=kN n hn from rfl] at HB
 unfold kv at *;rw [show (kcells (kN n hn).1).toArray=kC (kN n hn) from rfl] at HO
 unfold rv at *;generalize sgB ((n:Rat)).num=a1 at *;generalize mgS ((n:Rat)).num=a2 at *;generalize dnS ((n:Rat)).den=a3 at *;generalize kC (kN n hn)=C at *;go_enter func72,ntmps72
 go_upto_region 1 with (fail)
 obtain⟨W,ga,hW,ega,Bga,hga,hgW,HkW⟩:=al1h w (.cells #[.bool false,.string ⟨#[]⟩,.bool false,.string ⟨#[]⟩,.bool false,.string ⟨#[]⟩,.bool false,.string ⟨#[]⟩,.bool false] 30);rw [← hW];try rw [ega]
 clear hW ega;refine wp_region_lit ?_;refine wV ?_;go_simp;refine wpList_plain (by rfl) (fun K hK=>?_);refine yag 91 #[.int .i64 (n:Int),.int .i64 1] (by go_simp) ?_;refine (H.out _).mono ?_;rintro e w5 ⟨rfl,hk5⟩;refine ⟨_,rfl,?_⟩;go_simp;go_step
 replace Bga:=jH hk5 Bga;replace HkW:=jX (HkW.out.tz hk5);clear hk5;refine wU (v:=.agg C) (yam _ #[(0,.tmp 4)] #[(0,.agg #[.bool a1,.string a2,.bool false,.string a3])] _ rfl (by simp only [List.map_toArray,List.map_cons,List.map_nil];rfl) HB.out) ?_;go_simp;refine yaM (by rfl) _ _ _ rfl ga C rfl rfl _ _ Bga.out (by rw [HS.out];exact k_size) (by rw [HS.out];rfl) HO.out (fun K hK=>?_);obtain⟨W4,e4,b4,k4⟩:=yaD (cs:=C) Bga.out;rw [e4];go_simp;go_step
 have Hb4:=jX b4;have HkZ:=jX (HkW.out.trans k4 (by simp;omega));clear b4 k4 e4;go_wp2_with fail;refine bodyPost_ret (v:=.agg C) ?_ rfl ⟨rfl,HkZ.out⟩;rw [yac rfl];exact HL.out _ _ Hb4.out
section
theorem yga (x y:Qn):((((sgB x.p.num == sgB y.p.num)&&decide (mgS x.p.num=mgS y.p.num))&&((false == false)&&decide (dnS x.p.den=dnS y.p.den)))&&((((sgB x.r.num == sgB y.r.num)&&decide (mgS x.r.num=mgS y.r.num))&&((false == false)&&decide (dnS x.r.den=dnS y.r.den)))&&(x.neg == y.neg)))=(decide (x.p=y.p)&&(decide (x.r=y.r)&&(x.neg == y.neg))):=by
 rw [yef,yef]
theorem Qn.eq_dec (x y:Qn):(decide (x.p=y.p)&&(decide (x.r=y.r)&&(x.neg == y.neg)))=true↔x=y:=by
 obtain⟨p,r,n⟩:=x;obtain⟨p',r',n'⟩:=y;simp
theorem K.ext_iff {x y:K}:x=y↔x.1=y.1:=Subtype.ext_iff
open Classical in
theorem eqI_dec (i j:Iv K):((decide (i.f.pt.1.p=j.f.pt.1.p)&&(decide (i.f.pt.1.r=j.f.pt.1.r)&&(i.f.pt.1.neg == j.f.pt.1.neg)))&&((decide (i.l.pt.1.p=j.l.pt.1.p)&&(decide (i.l.pt.1.r=j.l.pt.1.r)&&(i.l.pt.1.neg == j.l.pt.1.neg)))&&((i.f.beh == j.f.beh)&&((!i.l.beh) == (!j.l.beh)))))=decide (i=j):=by
 rw [Bool.eq_iff_iff,decide_eq_true_iff,Bool.and_eq_true,Qn.eq_dec,Bool.and_eq_true,Qn.eq_dec,← K.ext_iff,← K.ext_iff];obtain⟨⟨a,b⟩,⟨c,d⟩⟩:=i;obtain⟨⟨a',b'⟩,⟨c',d'⟩⟩:=j;simp;constructor
 ·rintro ⟨rfl,rfl,rfl,h⟩
  exact ⟨⟨rfl,rfl⟩,rfl,h⟩
 rintro ⟨⟨rfl,rfl⟩,rfl,h⟩;exact ⟨rfl,rfl,rfl,h⟩
open Classical
theorem eqI_in (d:Nat) (x0 x1 x2 x3 x4 x5 x6 x7 x8 y0 y1 y2 y3 y4 y5 y6 y7 y8 u0 u1 u2 u3 u4 u5 u6 u7 u8 v0 v1 v2 v3 v4 v5 v6 v7 v8:Value) (o1 c1 o2 c2 k1 k2:Bool)
  (e1:∀ w,(Op.equalIn (d+4) 30 (.agg #[x0,x1,x2,x3,x4,x5,x6,x7,x8]) (.agg #[u0,u1,u2,u3,u4,u5,u6,u7,u8])).run prog w = .ok k1 w) (e2:∀ w,(Op.equalIn (d+4) 30 (.agg #[y0,y1,y2,y3,y4,y5,y6,y7,y8]) (.agg #[v0,v1,v2,v3,v4,v5,v6,v7,v8])).run prog w = .ok k2 w) (w:World) :
  (Op.equalIn (d+5) 32 (.agg #[x0,x1,x2,x3,x4,x5,x6,x7,x8,y0,y1,y2,y3,y4,y5,y6,y7,y8,.bool o1,.bool c1]) (.agg #[u0,u1,u2,u3,u4,u5,u6,u7,u8,v0,v1,v2,v3,v4,v5,v6,v7,v8,.bool o2,.bool c2])).run prog w = .ok (k1&&(k2&&((o1 == o2)&&(c1 == c2)))) w:=by
 have u3:=underlying30;have a3:=isAgg30;have z3:=sizeOf30;have u4:=underlying4;have aa4:=isAgg4;have z4:=sizeOf4;have hS:prog.underlying 32=some (.struct (prog.fieldsOf 32)):=by kernel_rfl
 have hp:prog.stoodInHeld 32=false:=by kernel_rfl
 rw [run_equalIn_agg w (d+4) 32 _ _ hS hp];simp only [Program.fieldsOf,underlying32];go_simp;cases k1<;>cases k2<;>cases o1<;>cases o2<;>cases c1<;>cases c2<;>simp
theorem eqI_g:prog.eqGuardType prog.depth 32=false:=by kernel_rfl
theorem yda (x y:K) (w:World):(binOp .neq 30 (kv x) (kv y)).run prog w = .ok (.bool (!decide (x=y))) w:=by
 rw [ybf,ybf,run_neq_struct,show (10000:Nat)=9996+4 from rfl,yiv,yga]
 have h:(decide (x.1.p=y.1.p)&&(decide (x.1.r=y.1.r)&&(x.1.neg == y.1.neg)))=decide (x=y):=by rw [Bool.eq_iff_iff,Qn.eq_dec,decide_eq_true_iff,K.ext_iff]
 rw [h];rfl
theorem ygm (x y:K) (w:World):(binOp .eql 30 (kv x) (kv y)).run prog w = .ok (.bool (decide (x=y))) w:=by
 rw [ybf,ybf,run_eql_struct,show (10000:Nat)=9996+4 from rfl,yiv,yga]
 have h:(decide (x.1.p=y.1.p)&&(decide (x.1.r=y.1.r)&&(x.1.neg == y.1.neg)))=decide (x=y):=by rw [Bool.eq_iff_iff,Qn.eq_dec,decide_eq_true_iff,K.ext_iff]
 rw [h];rfl
theorem eqI_at (i j:Iv K) (w:World):(Op.equalIn 10000 32 (iv i) (iv j)).run prog w = .ok (decide (i=j)) w:=by
 rw [ycD,ycD,show (10000:Nat)=9995+5 from rfl,eqI_in 9995 _ _ _ _ _ _ _ _ _ _ _ _ _ _ _ _ _ _ _ _ _ _ _ _ _ _ _ _ _ _ _ _ _ _ _ _ _ _ _ _ _ _ (fun w=>yiv 9995 _ _ _ _ _ _ _ _ _ _ _ _ _ _ _ _ _ _ w) (fun w=>yiv 9995 _ _ _ _ _ _ _ _ _ _ _ _ _ _ _ _ _ _ w),yga,yga,eqI_dec]
theorem neqI_run (i j:Iv K) (w:World):(binOp .neq 32 (iv i) (iv j)).run prog w = .ok (.bool (!decide (i=j))) w:=by
 have h:=eqI_at i j w;unfold iv at *;rw [run_neq_struct,h];rfl
theorem eqlI_run (i j:Iv K) (w:World):(binOp .eql 32 (iv i) (iv j)).run prog w = .ok (.bool (decide (i=j))) w:=by
 have h:=eqI_at i j w;unfold iv at *;rw [run_eql_struct,h];rfl
end
section
open Classical
theorem ycU {C:World→Prop} {o:Oper} {a:Act} {K:Act→Prop} (op:BinOp) (t:TypeId) (x y:Operand) (s:TypeId) (cx cy:Array Value) (v:Value) (ho:o.op = .binOp op t x y s) (hx:a.eval x = .agg cx) (hy:a.eval y = .agg cy) (hg:prog.eqGuardType prog.depth t=false)
  (h:∀ w,(binOp op t (.agg cx) (.agg cy)).run prog w = .ok v w) (hk:K (a.put o.dst v)):o.quiet prog a C K :=
 ⟨v,fun w hw=>by
  unfold Oper.quietAt execOp;simp only [ho,hx,hy,Sem.run_bind,run_eqGuard_agg (hm:=hg),Result.andThen_ok,h w,Sem.run_pure]
  exact ⟨rfl,rfl⟩,hk⟩
theorem equal_c (l m:List (Iv K)) (w:World) (sv tv:Value) (hr:IvR w sv l) (hs:IvR w tv m) (h9:l.length≤1000000000) (h8:m.length≤1000000000) :
  Calls prog 21 #[sv,tv] w fun e w'=>e = .returned (.bool (decide (l=m)))∧Keep [] w w':=by
 have HR:=jX hr;have HS:=jX hs;obtain⟨ao,ac,rfl,_⟩:=hr.form;obtain⟨bo,bc,rfl,_⟩:=hs.form;clear hr hs;by_cases hlen:l.length=m.length
 ·have hne:((l.length:Int) != (m.length:Int))=false:=by rw [hlen];simp
  have Hlen:=jX hlen;clear hlen;go_enter func21,ntmps21
  go_wp2_with fail;go_loopw [5] (fun c wr=>∃ k:Nat,k≤l.length∧c = .int .i64 (k:Int)∧l.take k=m.take k∧Keep [] w wr) (fun c _=>l.length-(intOf c).toNat)
  case atStart=>exact ⟨0,Nat.zero_le _,rfl,rfl,Keep.refl _ _⟩
  case round =>
   obtain⟨k,hk,rfl,heq,hkeep⟩:=hrel;have Heq:=jX heq;have HKr:=jX hkeep;clear heq hkeep;by_cases hlt:k<l.length
   ·have hlt2:k<m.length:=by rw [← Hlen.out];exact hlt
    obtain⟨g,o,rfl,hg,hat⟩:=IvR.elem (HR.out.later HKr.out) k hlt;obtain⟨g2,o2,rfl,hg2,hat2⟩:=IvR.elem (HS.out.later HKr.out) k hlt2;obtain⟨i,hi⟩:∃ i,l[k]=i:=⟨_,rfl⟩;obtain⟨j,hj⟩:∃ j,m[k]=j:=⟨_,rfl⟩;have Hi:=jX hi;have Hj:=jX hj;rw [hi] at hat;rw [hj] at hat2;clear hi hj;obtain⟨p,hp⟩:∃ p,o+k*20=p:=⟨_,rfl⟩;obtain⟨q,hq⟩:∃ q,o2+k*20=q:=⟨_,rfl⟩;rw [hp] at hat;rw [hq] at hat2;have HLa:=jX (hat.ld hg);have HLb:=jX (hat2.ld hg2);have HN:=jX (neqI_run i j);clear hat hat2;unfold iv at *;generalize iC i=I at *;generalize iC j=J at *;by_cases hij:i=j
    ·rw [decide_eq_true hij] at HN
     have Hij:=jX hij;clear hij;go_wp2_with fail;refine yad (by kernel_rfl) (by kernel_rfl) ?_
     repeat (first
      | go_big_quiet_skip
      | (go_big_quiet_want;first
       | (refine yaH _ _ _ (.agg I) rfl rfl (by rintro _ ⟨m,rfl⟩;exact HLa.out m) ?_;go_simp;go_big_quiet_on)|(refine yaH _ _ _ (.agg J) rfl rfl (by rintro _ ⟨m,rfl⟩;exact HLb.out m) ?_;go_simp;go_big_quiet_on)|(refine ycU _ _ _ _ _ _ _ (_) rfl rfl rfl eqI_g (by intro w;exact HN.out w) ?_;go_simp;go_big_quiet_on)
       | (go_big_quiet_op;first|go_big_quiet_on|go_big_quiet_call (first
        | fail))))
     refine wpQuiet_nil ?_;rintro w1 ⟨⟨_,hk_w1⟩,rfl⟩;clear HLa HLb HN;have Hk1:=jX hk_w1;clear hk_w1;go_wp2_with fail;go_roundw
     case rel=>exact ⟨k+1,by omega,congrArg (Value.int .i64) (by omega),by rw [List.take_succ_eq_append_getElem hlt,List.take_succ_eq_append_getElem hlt2,Heq.out,Hi.out,Hj.out,Hij.out],HKr.out.tz Hk1.out⟩
     case measure=>simp [intOf];omega
    rw [decide_eq_false hij] at HN;have Hij:=jX hij;clear hij;go_wp2_with fail;refine yad (by kernel_rfl) (by kernel_rfl) ?_
    repeat (first
     | go_big_quiet_skip
     | (go_big_quiet_want;first
      | (refine yaH _ _ _ (.agg I) rfl rfl (by rintro _ ⟨m,rfl⟩;exact HLa.out m) ?_;go_simp;go_big_quiet_on)|(refine yaH _ _ _ (.agg J) rfl rfl (by rintro _ ⟨m,rfl⟩;exact HLb.out m) ?_;go_simp;go_big_quiet_on)|(refine ycU _ _ _ _ _ _ _ (_) rfl rfl rfl eqI_g (by intro w;exact HN.out w) ?_;go_simp;go_big_quiet_on)
      | (go_big_quiet_op;first|go_big_quiet_on|go_big_quiet_call (first
       | fail))))
    refine wpQuiet_nil ?_;rintro w1 ⟨⟨_,hk_w1⟩,rfl⟩;clear HLa HLb HN;have Hk1:=jX hk_w1;clear hk_w1;go_wp2_with fail;go_ret
    have hno:l≠m:=fun e=>Hij.out (by rw [← Hi.out,← Hj.out];simp only [e]);exact ⟨by rw [decide_eq_false hno];rfl,HKr.out.tz Hk1.out⟩
   obtain rfl:k=l.length:=by omega
   go_wp2_with fail;go_ret
   have he:l=m:=by
    have:=Heq.out;rw [List.take_length,Hlen.out,List.take_length] at this;exact this
   exact ⟨by rw [decide_eq_true he];rfl,HKr.out⟩
 have hne:((l.length:Int) != (m.length:Int))=true:=by rw [bne_iff_ne];omega
 have hno:l≠m:=fun e=>hlen (by rw [e]);rw [decide_eq_false hno];clear hno hlen;go_enter func21,ntmps21
 go_wp2_with fail;go_ret
 exact ⟨rfl,Keep.refl _ _⟩
end
section
open Classical
structure RawR where
 a1:Bool
 a2:ByteArray
 a3:Bool
 a4:ByteArray
 b1:Bool
 b2:ByteArray
 b3:Bool
 b4:ByteArray
 n:Bool
def RawR.cells (x:RawR):List Value:=[.bool x.a1,.string x.a2,.bool x.a3,.string x.a4,.bool x.b1,.string x.b2,.bool x.b3,.string x.b4,.bool x.n]
def RawR.v (x:RawR):Value:=.agg #[.bool x.a1,.string x.a2,.bool x.a3,.string x.a4,.bool x.b1,.string x.b2,.bool x.b3,.string x.b4,.bool x.n]
def RawR.of (x:Qn):RawR:=⟨sgB x.p.num,mgS x.p.num,false,dnS x.p.den,sgB x.r.num,mgS x.r.num,false,dnS x.r.den,x.neg⟩
def RawR.isK (x:RawR):Prop:=∃ q:Qn,q.Ok∧x=RawR.of q
def RawR.sz (x:RawR) (k:Nat):Prop:=x.a2.size≤k∧x.a4.size≤k∧x.b2.size≤k∧x.b4.size≤k
theorem RawR.of_inj {x y:Qn} (h:RawR.of x=RawR.of y):x=y:=by
 unfold RawR.of at h;injection h with h1 h2 h3 h4 h5 h6 h7 h8 h9
 have hp:x.p=y.p:=by
  have:=(yef x.p y.p).symm;rw [h1,h2,h4] at this
  simpa using this
 have hr:x.r=y.r:=by
  have:=(yef x.r y.r).symm;rw [h5,h6,h8] at this
  simpa using this
 cases x;cases y;simp_all
theorem isreal_c (x:RawR) (hs:x.sz 1000000) (w:World):Calls prog 26 #[x.v] w fun e w'=>e = .returned (.bool (decide x.isK))∧Keep [] w w':=by
 obtain⟨a1,a2,a3,a4,b1,b2,b3,b4,n⟩:=x;obtain⟨hs1,hs2,hs3,hs4⟩:=hs;dsimp only at hs1 hs2 hs3 hs4;unfold RawR.v;dsimp only;have H1:=jX (yia a1 a2 a3 a4 (by omega) (by omega));have H2:=jX (yia b1 b2 b3 b4 (by omega) (by omega))
 have HX:Hid ((RawR.mk a1 a2 a3 a4 b1 b2 b3 b4 n).isK→chkQ a1 a2 a3 a4=true∧chkQ b1 b2 b3 b4=true):=by
  rintro ⟨q,hq,he⟩;unfold RawR.of at he;injection he with h1 h2 h3 h4 h5 h6 h7 h8 h9;exact ⟨yeF.2 ⟨q.p,h1,h2,h3,h4⟩,yeF.2 ⟨q.r,h5,h6,h7,h8⟩⟩
 clear hs1 hs2;cases hca:chkQ a1 a2 a3 a4 with
 | false =>
  rw [hca] at H1;have hres:decide (RawR.mk a1 a2 a3 a4 b1 b2 b3 b4 n).isK=false:=decide_eq_false (fun h=>by have:=(HX.out h).1;rw [hca] at this;cases this);rw [hres];clear hres hca HX hs3 hs4 H2;go_enter func26,ntmps26
  go_wp2_with fail;obtain⟨W,ga,hW,ega,Bga,hga,hgW,HkW⟩:=al1h w (.cells #[.bool a1,.string a2,.bool a3,.string a4,.bool b1,.string b2,.bool b3,.string b4,.bool n] 30);rw [← hW];try rw [ega]
  clear hW ega;obtain⟨pga,fga,lga⟩:=jQ Bga;go_wp2_with fail;refine (H1.out _).mono ?_;rintro e w1 ⟨rfl,hk_w1⟩;dsimp only;clear pga fga lga;replace Bga:=jH hk_w1 Bga;replace HkW:=jX (HkW.out.tz hk_w1);clear hk_w1;obtain⟨pga,fga,lga⟩:=jQ Bga;go_wp2_with fail;go_ret
  exact ⟨rfl,by repeat (first|(with_reducible exact HkW.out)|(refine Keep.sP ?_ _ _ _ (by omega))|(refine Keep.aP ?_ _)|(refine Keep.dP ?_))⟩
 | true =>
  rw [hca] at H1;cases hcb:chkQ b1 b2 b3 b4 with
  | false =>
   rw [hcb] at H2;have hres:decide (RawR.mk a1 a2 a3 a4 b1 b2 b3 b4 n).isK=false:=decide_eq_false (fun h=>by have:=(HX.out h).2;rw [hcb] at this;cases this);rw [hres];clear hres hca hcb HX hs3 hs4;go_enter func26,ntmps26
   go_wp2_with fail;obtain⟨W,ga,hW,ega,Bga,hga,hgW,HkW⟩:=al1h w (.cells #[.bool a1,.string a2,.bool a3,.string a4,.bool b1,.string b2,.bool b3,.string b4,.bool n] 30);rw [← hW];try rw [ega]
   clear hW ega;obtain⟨pga,fga,lga⟩:=jQ Bga;go_wp2_with fail;refine (H1.out _).mono ?_;rintro e w1 ⟨rfl,hk_w1⟩;dsimp only;clear pga fga lga;replace Bga:=jH hk_w1 Bga;replace HkW:=jX (HkW.out.tz hk_w1);clear hk_w1;obtain⟨pga,fga,lga⟩:=jQ Bga;go_wp2_with fail;refine (H2.out _).mono ?_;rintro e w2 ⟨rfl,hk_w2⟩;dsimp only;clear pga fga lga;replace Bga:=jH hk_w2 Bga;replace HkW:=jX (HkW.out.tz hk_w2);clear hk_w2;obtain⟨pga,fga,lga⟩:=jQ Bga;go_wp2_with fail;go_ret
   exact ⟨rfl,by repeat (first|(with_reducible exact HkW.out)|(refine Keep.sP ?_ _ _ _ (by omega))|(refine Keep.aP ?_ _)|(refine Keep.dP ?_))⟩
  | true =>
   rw [hcb] at H2;obtain⟨p,e1,e2,e3,e4⟩:=yeF.1 hca;obtain⟨r,e5,e6,e7,e8⟩:=yeF.1 hcb
   have hfit:FitQ 10000000 r:=by
    refine ⟨?_,?_⟩
    ·have:=hs3;rw [e6] at this;exact Nat.le_trans this (by decide)
    have:=hs4;rw [e8] at this;unfold dnS at this;unfold Fit mgS;rw [Int.natAbs_natCast];split at this
    ·rename_i h1;rw [h1];exact Nat.le_trans ((yaW 1 1).2 (by decide)) (by decide)
    exact Nat.le_trans this (by decide)
   have HR:=jX (yhm r hfit);have HS:=jX (ycY r);rw [ydO] at HS;clear hs3 hs4 hca hcb hfit HX;subst e1 e2 e3 e4 e5 e6 e7 e8;have HK1:Hid (∀ q:Qn,q.Ok→q.p=p→q.r=r→q.neg=n→(RawR.mk (sgB p.num) (mgS p.num) false (dnS p.den) (sgB r.num) (mgS r.num) false (dnS r.den) n).isK):=fun q hq h1 h2 h3=>⟨q,hq,by unfold RawR.of;rw [h1,h2,h3]⟩
   have HK2:Hid ((RawR.mk (sgB p.num) (mgS p.num) false (dnS p.den) (sgB r.num) (mgS r.num) false (dnS r.den) n).isK→(⟨p,r,n⟩:Qn).Ok):=by
    rintro ⟨q,hq,he⟩;have:=RawR.of_inj (x:=⟨p,r,n⟩) (y:=q) he;rw [this];exact hq
   generalize (RawR.mk (sgB p.num) (mgS p.num) false (dnS p.den) (sgB r.num) (mgS r.num) false (dnS r.den) n).isK=KK at *;unfold rv at HR HS;have hsg:=yaJ r;unfold Root2Post rv at HR;rcases hsg with ⟨hr0,hsg⟩|⟨hr0,hsg⟩|⟨hr0,hsg⟩
   ·have hres:decide KK=false:=decide_eq_false (fun h=>by have:=(HK2.out h).nn;dsimp only at this;grind)
    rw [hres];rw [hsg] at HS;clear hres HK1 HK2 hsg HR hr0;generalize sgB (p).num=a1 at *;generalize mgS (p).num=a2 at *;generalize dnS (p).den=a4 at *;generalize sgB (r).num=b1 at *;generalize mgS (r).num=b2 at *;generalize dnS (r).den=b4 at *;go_enter func26,ntmps26
    go_wp2_with fail;obtain⟨W,ga,hW,ega,Bga,hga,hgW,HkW⟩:=al1h w (.cells #[.bool a1,.string a2,.bool false,.string a4,.bool b1,.string b2,.bool false,.string b4,.bool n] 30);rw [← hW];try rw [ega]
    clear hW ega;obtain⟨pga,fga,lga⟩:=jQ Bga;go_wp2_with fail;refine (H1.out _).mono ?_;rintro e w1 ⟨rfl,hk_w1⟩;dsimp only;clear pga fga lga;replace Bga:=jH hk_w1 Bga;replace HkW:=jX (HkW.out.tz hk_w1);clear hk_w1;obtain⟨pga,fga,lga⟩:=jQ Bga;go_wp2_with fail;refine (H2.out _).mono ?_;rintro e w2 ⟨rfl,hk_w2⟩;dsimp only;clear pga fga lga;replace Bga:=jH hk_w2 Bga;replace HkW:=jX (HkW.out.tz hk_w2);clear hk_w2;obtain⟨pga,fga,lga⟩:=jQ Bga;go_wp2_with fail;refine (HS.out _).mono ?_;rintro e w3 ⟨rfl,hk_w3⟩;dsimp only;clear pga fga lga;replace Bga:=jH hk_w3 Bga;replace HkW:=jX (HkW.out.tz hk_w3);clear hk_w3;obtain⟨pga,fga,lga⟩:=jQ Bga;go_wp2_with fail;go_ret
    exact ⟨rfl,by repeat (first|(with_reducible exact HkW.out)|(refine Keep.sP ?_ _ _ _ (by omega))|(refine Keep.aP ?_ _)|(refine Keep.dP ?_))⟩
   ·have hres : decide KK = !n := by
     cases n with
     | true=>exact decide_eq_false (fun h=>by have:=(HK2.out h).zero hr0;cases this)
     | false=>exact decide_eq_true (HK1.out ⟨p,r,false⟩ ⟨by show (0:Rat)≤r;rw [hr0];grind,fun _=>rfl,fun h=>absurd hr0 h⟩ rfl rfl rfl)
    rw [hres];rw [hsg] at HS;clear hres HK1 HK2 hsg HR hr0;generalize sgB (p).num=a1 at *;generalize mgS (p).num=a2 at *;generalize dnS (p).den=a4 at *;generalize sgB (r).num=b1 at *;generalize mgS (r).num=b2 at *;generalize dnS (r).den=b4 at *;go_enter func26,ntmps26
    go_wp2_with fail;obtain⟨W,ga,hW,ega,Bga,hga,hgW,HkW⟩:=al1h w (.cells #[.bool a1,.string a2,.bool false,.string a4,.bool b1,.string b2,.bool false,.string b4,.bool n] 30);rw [← hW];try rw [ega]
    clear hW ega;obtain⟨pga,fga,lga⟩:=jQ Bga;go_wp2_with fail;refine (H1.out _).mono ?_;rintro e w1 ⟨rfl,hk_w1⟩;dsimp only;clear pga fga lga;replace Bga:=jH hk_w1 Bga;replace HkW:=jX (HkW.out.tz hk_w1);clear hk_w1;obtain⟨pga,fga,lga⟩:=jQ Bga;go_wp2_with fail;refine (H2.out _).mono ?_;rintro e w2 ⟨rfl,hk_w2⟩;dsimp only;clear pga fga lga;replace Bga:=jH hk_w2 Bga;replace HkW:=jX (HkW.out.tz hk_w2);clear hk_w2;obtain⟨pga,fga,lga⟩:=jQ Bga;go_wp2_with fail;refine (HS.out _).mono ?_;rintro e w3 ⟨rfl,hk_w3⟩;dsimp only;clear pga fga lga;replace Bga:=jH hk_w3 Bga;replace HkW:=jX (HkW.out.tz hk_w3);clear hk_w3;obtain⟨pga,fga,lga⟩:=jQ Bga;go_wp2_with fail;refine (HS.out _).mono ?_;rintro e w4 ⟨rfl,hk_w4⟩;dsimp only;clear pga fga lga;replace Bga:=jH hk_w4 Bga;replace HkW:=jX (HkW.out.tz hk_w4);clear hk_w4;obtain⟨pga,fga,lga⟩:=jQ Bga;go_wp2_with fail;go_ret
    exact ⟨rfl,by repeat (first|(with_reducible exact HkW.out)|(refine Keep.sP ?_ _ _ _ (by omega))|(refine Keep.aP ?_ _)|(refine Keep.dP ?_))⟩
   have HRes:Hid (∀ q ok,QRoot r q ok→decide KK = !ok):=by
    intro q ok hq;cases ok with
    | true=>exact decide_eq_false (fun h=>(HK2.out h).sq (by dsimp only;grind) q (hq.1 rfl).2)
    | false=>exact decide_eq_true (HK1.out ⟨p,r,n⟩ ⟨by show (0:Rat)≤r;grind,fun h=>absurd h (by dsimp only;grind),fun _=>(hq.2 rfl).2⟩ rfl rfl rfl)
   generalize decide KK=res at *;rw [hsg] at HS
   have HR:Hid (∀ w:World,Calls prog 87 #[.agg #[.bool (sgB r.num),.string (mgS r.num),.bool false,.string (dnS r.den)]] w fun e w'=>∃ n s d ok,e = .returned (.tuple #[.agg #[.bool n,.string s,.bool false,.string d],.bool ok])∧res = !ok∧Keep [] w w'):=fun w=>(HR.out w).mono (fun e w' h=>by
    obtain⟨q,ok,he,hq,hk⟩:=h
    exact ⟨_,_,_,ok,he,HRes.out q ok hq,hk⟩)
   clear HRes HK1 HK2 hsg hr0;generalize sgB (p).num=a1 at *;generalize mgS (p).num=a2 at *;generalize dnS (p).den=a4 at *;generalize sgB (r).num=b1 at *;generalize mgS (r).num=b2 at *;generalize dnS (r).den=b4 at *;go_enter func26,ntmps26
   go_wp2_with fail;obtain⟨W,ga,hW,ega,Bga,hga,hgW,HkW⟩:=al1h w (.cells #[.bool a1,.string a2,.bool false,.string a4,.bool b1,.string b2,.bool false,.string b4,.bool n] 30);rw [← hW];try rw [ega]
   clear hW ega;obtain⟨pga,fga,lga⟩:=jQ Bga;go_wp2_with fail;refine (H1.out _).mono ?_;rintro e w1 ⟨rfl,hk_w1⟩;dsimp only;clear pga fga lga;replace Bga:=jH hk_w1 Bga;replace HkW:=jX (HkW.out.tz hk_w1);clear hk_w1;obtain⟨pga,fga,lga⟩:=jQ Bga;go_wp2_with fail;refine (H2.out _).mono ?_;rintro e w2 ⟨rfl,hk_w2⟩;dsimp only;clear pga fga lga;replace Bga:=jH hk_w2 Bga;replace HkW:=jX (HkW.out.tz hk_w2);clear hk_w2;obtain⟨pga,fga,lga⟩:=jQ Bga;go_wp2_with fail;refine (HS.out _).mono ?_;rintro e w3 ⟨rfl,hk_w3⟩;dsimp only;clear pga fga lga;replace Bga:=jH hk_w3 Bga;replace HkW:=jX (HkW.out.tz hk_w3);clear hk_w3;obtain⟨pga,fga,lga⟩:=jQ Bga;go_wp2_with fail;refine (HS.out _).mono ?_;rintro e w4 ⟨rfl,hk_w4⟩;dsimp only;clear pga fga lga;replace Bga:=jH hk_w4 Bga;replace HkW:=jX (HkW.out.tz hk_w4);clear hk_w4;obtain⟨pga,fga,lga⟩:=jQ Bga;go_wp2_with fail;refine (HR.out _).mono ?_;rintro e w5 ⟨qn,qs,qd,ok,rfl,rfl,hk_w5⟩;dsimp only;clear pga fga lga;replace Bga:=jH hk_w5 Bga;replace HkW:=jX (HkW.out.tz hk_w5);clear hk_w5;go_wp2_with fail;go_ret
   exact ⟨rfl,by repeat (first|(with_reducible exact HkW.out)|(refine Keep.sP ?_ _ _ _ (by omega))|(refine Keep.aP ?_ _)|(refine Keep.dP ?_))⟩
end
end Go.Proofs.YtpgffjjpiafhpaaGreatDoor
