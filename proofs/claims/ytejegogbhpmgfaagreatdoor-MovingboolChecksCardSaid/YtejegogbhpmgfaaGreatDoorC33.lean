/- Parts of a proof about this translation: Pn, Sp, Ti, Tj, Ue, Uf, Sw, Sx, Ug. -/
import Derived.Test.YtejegogbhpmgfaaGreatDoorC31
import Derived.Test.YtejegogbhpmgfaaGreatDoorC29
import Derived.Test.YtejegogbhpmgfaaGreatDoorC24
import Derived.Test.YtejegogbhpmgfaaGreatDoorC25
import Derived.Test.YtejegogbhpmgfaaGreatDoorC27
import Derived.Test.YtejegogbhpmgfaaGreatDoorC32
import Derived.Test.YtejegogbhpmgfaaGreatDoorC20
import Derived.Test.YtejegogbhpmgfaaGreatDoorC28
import Derived.Test.YtejegogbhpmgfaaGreatDoorC22
set_option linter.unusedVariables false
set_option linter.unusedSimpArgs false
set_option maxRecDepth 100000
set_option maxHeartbeats 8000000
namespace Go.Proofs.YtejegogbhpmgfaaGreatDoor
open Go.RowKit
noncomputable def combK (op:Int) (a b:List (Iv K)):List (Iv K):=cells (decV op) a b (sortS (ptsL (a++b)))
theorem ptsL_mem {l:List (Iv K)} {x:K}:x∈ptsL l↔∃ i∈l,x=i.f.pt∨x=i.l.pt:=by
 unfold ptsL
 rw [List.mem_flatMap]
 simp
theorem endsOf_all {l a:List (Iv K)} (h:∀ i∈a,i∈l):EndsOf (sortS (ptsL l)) a :=
 ⟨sortS_ord _,fun i hi=>sortS_mem.2 (ptsL_mem.2 ⟨i,h i hi,.inl rfl⟩),fun i hi=>sortS_mem.2 (ptsL_mem.2 ⟨i,h i hi,.inr rfl⟩)⟩
theorem combK_norm (op:Int) (a b:List (Iv K)):Norm (combK op a b) :=
 (cells_law (decV_zero op) (endsOf_all (l:=a++b) (fun i hi=>List.mem_append_left _ hi)) (endsOf_all (l:=a++b) (fun i hi=>List.mem_append_right _ hi))).1
theorem combK_has (op:Int) (a b:List (Iv K)) (x:Bd K):hasL (combK op a b) x=decV op (hasL a x) (hasL b x) :=
 (cells_law (decV_zero op) (endsOf_all (l:=a++b) (fun i hi=>List.mem_append_left _ hi)) (endsOf_all (l:=a++b) (fun i hi=>List.mem_append_right _ hi))).2 x
def PtsIn (S:List K) (l:List (Iv K)):Prop:=∀ i∈l,i.f.pt∈S∧i.l.pt∈S
theorem PtsIn.nil (S:List K):PtsIn S []:=fun _ h=>by cases h
theorem PtsIn.app {S:List K} {l m:List (Iv K)} (h:PtsIn S l) (k:PtsIn S m):PtsIn S (l++m):=fun i hi=>by
 rcases List.mem_append.1 hi with hi|hi
 ·exact h i hi
 exact k i hi
theorem combT_pts {S:List K} {here op:Bool} {t:K} {out:List (Iv K)} (ht:t∈S) (h:PtsIn S out):PtsIn S (combT here op t out):=by
 unfold combT
 cases op
 ·cases here
  ·exact h
  exact h.app (fun i hi=>by simp at hi;subst hi;exact ⟨ht,ht⟩)
 rw [if_pos rfl]
 rcases List.eq_nil_or_concat out with rfl|⟨r,i,rfl⟩
 ·exact h
 rw [List.concat_eq_append] at h ⊢
 rw [setLast_snoc]
 intro j hj
 rcases List.mem_append.1 hj with hj|hj
 ·exact h j (List.mem_append_left _ hj)
 simp at hj;subst hj
 exact ⟨(h i (by simp)).1,ht⟩
theorem combB_pts {S:List K} {here btw:Bool} {t n:K} {out:List (Iv K)} (ht:t∈S) (hn:n∈S) (h:PtsIn S out):PtsIn S (combB here btw t n out):=by
 unfold combB
 split
 ·exact h.app (fun i hi=>by simp at hi;subst hi;exact ⟨ht,hn⟩)
 exact h
theorem combL_pts {S:List K} {H:K→Bool} {P:K→K→Bool}:∀ (l:List K) (op:Bool) (out:List (Iv K)),(∀ x∈l,x∈S)→PtsIn S out→PtsIn S (combL H P l op out)
 | [],_,_,_,h=>h
 | [t],op,out,hl,h=>combT_pts (hl t (by simp)) h
 | t :: n :: r,op,out,hl,h=>combL_pts (n :: r) _ _ (fun x hx=>hl x (by simp at hx ⊢;exact .inr hx)) (combB_pts (hl t (by simp)) (hl n (by simp)) (combT_pts (hl t (by simp)) h))
theorem combK_pts {S:List K} {op:Int} {a b:List (Iv K)} (ha:PtsIn S a) (hb:PtsIn S b):PtsIn S (combK op a b):=by
 refine combL_pts _ _ _ (fun x hx=>?_) (PtsIn.nil S)
 obtain⟨i,hi,h⟩:=ptsL_mem.1 (sortS_mem.1 hx)
 have:=ha.app hb i hi
 rcases h with rfl|rfl
 ·exact this.1
 exact this.2
theorem NormF.pair {l:List (Iv K)}:∀ {b:Bd K},NormF l b→(∀ i∈l,b<i.f)∧l.Pairwise (fun i j=>i.l<j.f):=by
 induction l with
 | nil=>intro b _;exact ⟨by simp,List.Pairwise.nil⟩
 | cons i l ih =>
  intro b h
  obtain⟨h1,h2,h3⟩:=h
  obtain⟨k1,k2⟩:=ih h3
  refine ⟨fun j hj=>?_,List.pairwise_cons.2 ⟨k1,k2⟩⟩
  rcases List.mem_cons.1 hj with rfl|hj
  ·exact h1
  have:=k1 j hj;grind
theorem NormF.val {l:List (Iv K)}:∀ {b:Bd K},NormF l b→∀ i∈l,i.f<i.l:=by
 induction l with
 | nil=>intro b _ i hi;cases hi
 | cons j l ih =>
  intro b h i hi
  rcases List.mem_cons.1 hi with rfl|hi
  ·exact h.2.1
  exact ih h.2.2 i hi
theorem Norm.val {l:List (Iv K)} (h:Norm l):∀ i∈l,i.f<i.l:=by
 cases l with
 | nil=>intro i hi;cases hi
 | cons j l =>
  intro i hi
  rcases List.mem_cons.1 hi with rfl|hi
  ·exact h.1
  exact h.2.val i hi
theorem Norm.pair {l:List (Iv K)} (h:Norm l):l.Pairwise (fun i j=>i.l<j.f):=by
 cases l with
 | nil=>exact List.Pairwise.nil
 | cons j l=>exact List.pairwise_cons.2 ⟨h.2.pair.1,h.2.pair.2⟩
theorem nodup_sub_len {α:Type}:∀ {l m:List α},l.Nodup→(∀ x∈l,x∈m)→l.length≤m.length:=by
 intro l
 induction l with
 | nil=>intro m _ _;simp
 | cons x l ih =>
  intro m h hs
  obtain⟨h1,h2⟩:=List.nodup_cons.1 h
  obtain⟨s,t,rfl⟩:=List.append_of_mem (hs x (by simp))
  have:=ih (m:=s++t) h2 (fun y hy=>by
   have h3:=hs y (by simp [hy])
   rw [List.mem_append,List.mem_cons] at h3
   rw [List.mem_append]
   rcases h3 with h3|h3|h3
   ·exact .inl h3
   ·subst h3;exact absurd hy h1
   exact .inr h3)
  simp at this ⊢
  omega
theorem Norm.len {S:List K} {l:List (Iv K)} (h:Norm l) (hp:PtsIn S l):l.length≤2*S.length:=by
 have hv:=h.val
 have hn:(l.map Iv.f).Nodup:=by
  unfold List.Nodup
  rw [List.pairwise_map]
  refine h.pair.imp_of_mem (fun {i j} hi hj hij he=>?_)
  have:=hv i hi
  rw [he] at this
  grind
 have hs:∀ x∈l.map Iv.f,x∈S.flatMap (fun s=>[(⟨s,false⟩:Bd K),⟨s,true⟩]):=fun x hx=>by
  obtain⟨i,hi,rfl⟩:=List.mem_map.1 hx
  rw [List.mem_flatMap]
  refine ⟨_,(hp i hi).1,?_⟩
  rcases hb:i.f with ⟨p,b⟩
  cases b<;>simp
 have:=nodup_sub_len hn hs
 have hl:(S.flatMap (fun s=>[(⟨s,false⟩:Bd K),⟨s,true⟩])).length=2*S.length:=by
  clear this hs hn hv hp h
  induction S with
  | nil=>rfl
  | cons s S ih=>rw [List.flatMap_cons,List.length_append,ih];simp;omega
 rw [List.length_map,hl] at this
 exact this
structure Per (S:List K) (l:List (Iv K)):Prop where
 norm:Norm l
 pts:PtsIn S l
theorem Per.len {S:List K} {l:List (Iv K)} (h:Per S l):l.length≤2*S.length:=h.norm.len h.pts
theorem combK_per {S:List K} (op:Int) {a b:List (Iv K)} (ha:PtsIn S a) (hb:PtsIn S b):Per S (combK op a b):=⟨combK_norm op a b,combK_pts ha hb⟩
theorem combK_eq {op:Int} {a b l:List (Iv K)} (hl:Norm l) (h:∀ x,hasL l x=decV op (hasL a x) (hasL b x)):combK op a b=l :=
 norm_unique (combK_norm op a b) hl (fun x=>by rw [combK_has,h])
theorem fit0:FitQ 1 0:=by refine ⟨?_,?_⟩<;>rw [Fit_iff]<;>decide
structure InsA where
 P:Nat
 D:Nat
 R:Nat
 E:Nat
 neg:Bool
 hP:P≤255
 hD:D≤255
 hR:R≤255
 hE:E≤255
structure SpanA where
 a:InsA
 b:InsA
 oa:Bool
 ob:Bool
theorem al_iv (ev:Operand→Value) (w:World) (o:Oper) (ho:o.op = .alloc 49):(execOp ev o).run Tryz.prog w = .ok (.value (.pointer (some ⟨w.heap.size,0,none⟩))) (w.alloc (.cells #[.bool false,.string ⟨#[]⟩,.bool false,.string ⟨#[]⟩,.bool false,.string ⟨#[]⟩,.bool false,.string ⟨#[]⟩,.bool false,.bool false,.string ⟨#[]⟩,.bool false,.string ⟨#[]⟩,.bool false,.string ⟨#[]⟩,.bool false,.string ⟨#[]⟩,.bool false,.bool false,.bool false] 49)):=by
 unfold execOp
 simp only [ho]
 go_simp
theorem sweep_comb {op:Int} {a b out:List (Iv K)} (h1:Norm out) (h2:∀ x,hasL out x=decV op (hasL a x) (hasL b x)):out=combK op a b:=(combK_eq h1 h2).symm
theorem Intersect_c (a b:Bool) (w:World):Calls Tryz.prog 111 #[.bool a,.bool b] w fun e w'=>e = .returned (.bool (decV 2 a b))∧Keep [] w w':=by
 cases a<;>cases b
 all_goals
  go_enter Tryz.func111,Tryz.ntmps111
  go_wp2_with fail
  go_ret
  exact ⟨rfl,Keep.refl _ _⟩
theorem Intersect_p (a b:List (Iv K)) (ha:∀ i∈a,i.f<i.l) (hb:∀ i∈b,i.f<i.l) (w:World) (sv tv:Value) (hr:IvR w sv a) (hs:IvR w tv b) (h9:a.length≤10000) (h8:b.length≤10000) :
  Calls Tryz.prog 71 #[sv,tv] w fun e w'=>∃ v,e = .returned v∧IvR w' v (combK 2 a b)∧Keep [] w w':=by
 have H:=jX (sweep_c (decV 2) 111 (enters_of Tryz.func111 (by kernel_rfl) rfl) (fun x y w=>Intersect_c x y w) (decV_zero 2) a b ha hb w sv tv hr hs h9 h8)
 obtain⟨ao,ac,rfl,_⟩:=hr.form
 obtain⟨bo,bc,rfl,_⟩:=hs.form
 clear hr hs ha hb
 go_enter Tryz.func71,Tryz.ntmps71
 go_wp2_with fail
 refine H.out.mono ?_
 rintro e w1 ⟨v,out,rfl,hv,h1,h2,hk⟩
 dsimp only
 have HV:=jX (show IvR w1 v (combK 2 a b) by rw [← sweep_comb h1 h2];exact hv)
 have HK:=jX hk
 obtain⟨vo,vc,rfl,_⟩:=hv.form
 clear hv h1 h2 hk
 go_wp2_with fail
 go_ret
 exact ⟨_,rfl,HV.out,HK.out⟩
theorem Minus_c (a b:Bool) (w:World):Calls Tryz.prog 109 #[.bool a,.bool b] w fun e w'=>e = .returned (.bool (decV 3 a b))∧Keep [] w w':=by
 cases a<;>cases b
 all_goals
  go_enter Tryz.func109,Tryz.ntmps109
  go_wp2_with fail
  go_ret
  exact ⟨rfl,Keep.refl _ _⟩
theorem Minus_p (a b:List (Iv K)) (ha:∀ i∈a,i.f<i.l) (hb:∀ i∈b,i.f<i.l) (w:World) (sv tv:Value) (hr:IvR w sv a) (hs:IvR w tv b) (h9:a.length≤10000) (h8:b.length≤10000) :
  Calls Tryz.prog 66 #[sv,tv] w fun e w'=>∃ v,e = .returned v∧IvR w' v (combK 3 a b)∧Keep [] w w':=by
 have H:=jX (sweep_c (decV 3) 109 (enters_of Tryz.func109 (by kernel_rfl) rfl) (fun x y w=>Minus_c x y w) (decV_zero 3) a b ha hb w sv tv hr hs h9 h8)
 obtain⟨ao,ac,rfl,_⟩:=hr.form
 obtain⟨bo,bc,rfl,_⟩:=hs.form
 clear hr hs ha hb
 go_enter Tryz.func66,Tryz.ntmps66
 go_wp2_with fail
 refine H.out.mono ?_
 rintro e w1 ⟨v,out,rfl,hv,h1,h2,hk⟩
 dsimp only
 have HV:=jX (show IvR w1 v (combK 3 a b) by rw [← sweep_comb h1 h2];exact hv)
 have HK:=jX hk
 obtain⟨vo,vc,rfl,_⟩:=hv.form
 clear hv h1 h2 hk
 go_wp2_with fail
 go_ret
 exact ⟨_,rfl,HV.out,HK.out⟩
theorem rcombine_c (op:Int) (hop:op=1∨op=2∨op=3) (a b:List (Iv K)) (w:World) (sv tv:Value) (hr:IvR w sv a) (hs:IvR w tv b) (h9:a.length≤10000) (h8:b.length≤10000) :
  Calls Tryz.prog 50 #[.int .i64 op,sv,tv] w fun e w'=>∃ v,e = .returned v∧IvR w' v (combK op a b)∧Keep [] w w':=combine_c op hop a b w sv tv hr hs h9 h8
def kQ (q:Rat) (h:FitQ 100000 q):K:=⟨⟨q,0,false⟩,⟨by show (0:Rat)≤0;grind,fun _=>rfl,fun h=>absurd rfl h⟩,h,fit0.mono (by decide)⟩
theorem cmp_frac (a b:Rat):cmpQ ⟨a,0,false⟩ ⟨b,0,false⟩=sgn (a-b):=by
 have h1:sg1 (a-b) (Qn.u ⟨a,0,false⟩) 0=sgn (a-b):=by
  unfold sg1
  rw [sgn_zero,Int.mul_zero,if_pos (.inl rfl)]
 unfold cmpQ
 dsimp only
 rw [sgn_zero,Int.mul_zero,if_pos (.inl rfl),h1]
theorem kQ_lt {a b:Rat} {ha:FitQ 100000 a} {hb:FitQ 100000 b}:kQ a ha<kQ b hb↔a<b:=by
 rw [← K.cmp_neg]
 show cmpQ ⟨a,0,false⟩ ⟨b,0,false⟩ = -1↔_
 rw [cmp_frac]
 rcases sgn_cases (a-b) with ⟨h,h2⟩|⟨h,h2⟩|⟨h,h2⟩<;>rw [h2]<;>constructor<;>intro h3<;>first|grind|(exact absurd h3 (by decide))
theorem fit_nat1 (n:Nat) (h:n<256):FitQ 1 (n:Rat):=by
 refine ⟨?_,?_⟩
 ·rw [Fit_iff]
  have e:(n:Rat).num=(n:Int):=rfl
  rw [e]
  simpa using h
 rw [Fit_iff]
 have e:(n:Rat).den=1:=rfl
 rw [e]
 decide
theorem fit_nat (n:Nat) (h:n<256):FitQ 100000 (n:Rat):=(fit_nat1 n h).mono (by decide)
def kN (n:Nat) (h:n<256):K:=kQ n (fit_nat n h)
theorem kN_lt {m n:Nat} {hm:m<256} {hn:n<256}:kN m hm<kN n hn↔m<n:=by
 unfold kN
 rw [kQ_lt]
 exact_mod_cast Iff.rfl
theorem divInt_nat (n:Nat):Rat.divInt (n:Int) 1=(n:Rat):=by
 exact Rat.num_divInt_den (n:Rat)
theorem real_built (n:Bool) (s d:ByteArray):Tryz.prog.built 36 [(0,.agg #[.bool n,.string s,.bool false,.string d])]=some #[.bool n,.string s,.bool false,.string d,.bool false,.string ⟨#[]⟩,.bool false,.string ⟨#[]⟩,.bool false]:=by kernel_rfl
theorem kQ_C (q:Rat) (h:FitQ 100000 q):kC (kQ q h) = #[.bool (sgB q.num),.string (mgS q.num),.bool false,.string (dnS q.den),.bool false,.string ⟨#[]⟩,.bool false,.string ⟨#[]⟩,.bool false]:=by
 have h1:sgB (0:Rat).num=false:=by decide
 have h2:mgS (0:Rat).num=⟨#[]⟩:=mg_empty.2 rfl
 have h3:dnS (0:Rat).den=⟨#[]⟩:=by unfold dnS;rfl
 unfold kC kQ kcells
 dsimp only
 rw [h1,h2,h3]
theorem real_built' (q:Rat) (h:FitQ 100000 q):Tryz.prog.built 36 [(0,rv q)]=some (kC (kQ q h)):=by
 rw [kQ_C]
 exact real_built _ _ _
section
theorem eqR_dec (x y:Qn):((((sgB x.p.num == sgB y.p.num)&&decide (mgS x.p.num=mgS y.p.num))&&((false == false)&&decide (dnS x.p.den=dnS y.p.den)))&&((((sgB x.r.num == sgB y.r.num)&&decide (mgS x.r.num=mgS y.r.num))&&((false == false)&&decide (dnS x.r.den=dnS y.r.den)))&&(x.neg == y.neg)))=(decide (x.p=y.p)&&(decide (x.r=y.r)&&(x.neg == y.neg))):=by
 rw [eqQ_dec,eqQ_dec]
theorem Qn.eq_dec (x y:Qn):(decide (x.p=y.p)&&(decide (x.r=y.r)&&(x.neg == y.neg)))=true↔x=y:=by
 obtain⟨p,r,n⟩:=x
 obtain⟨p',r',n'⟩:=y
 simp
theorem K.ext_iff {x y:K}:x=y↔x.1=y.1:=Subtype.ext_iff
open Classical in
theorem eqI_dec (i j:Iv K):((decide (i.f.pt.1.p=j.f.pt.1.p)&&(decide (i.f.pt.1.r=j.f.pt.1.r)&&(i.f.pt.1.neg == j.f.pt.1.neg)))&&((decide (i.l.pt.1.p=j.l.pt.1.p)&&(decide (i.l.pt.1.r=j.l.pt.1.r)&&(i.l.pt.1.neg == j.l.pt.1.neg)))&&((i.f.beh == j.f.beh)&&((!i.l.beh) == (!j.l.beh)))))=decide (i=j):=by
 rw [Bool.eq_iff_iff,decide_eq_true_iff,Bool.and_eq_true,Qn.eq_dec,Bool.and_eq_true,Qn.eq_dec,← K.ext_iff,← K.ext_iff]
 obtain⟨⟨a,b⟩,⟨c,d⟩⟩:=i
 obtain⟨⟨a',b'⟩,⟨c',d'⟩⟩:=j
 simp
 constructor
 ·rintro ⟨rfl,rfl,rfl,h⟩
  exact ⟨⟨rfl,rfl⟩,rfl,h⟩
 rintro ⟨⟨rfl,rfl⟩,rfl,h⟩
 exact ⟨rfl,rfl,rfl,h⟩
open Classical
theorem eqI_in (d:Nat) (x0 x1 x2 x3 x4 x5 x6 x7 x8 y0 y1 y2 y3 y4 y5 y6 y7 y8 u0 u1 u2 u3 u4 u5 u6 u7 u8 v0 v1 v2 v3 v4 v5 v6 v7 v8:Value) (o1 c1 o2 c2 k1 k2:Bool)
  (e1:∀ w,(Op.equalIn (d+4) 36 (.agg #[x0,x1,x2,x3,x4,x5,x6,x7,x8]) (.agg #[u0,u1,u2,u3,u4,u5,u6,u7,u8])).run Tryz.prog w = .ok k1 w) (e2:∀ w,(Op.equalIn (d+4) 36 (.agg #[y0,y1,y2,y3,y4,y5,y6,y7,y8]) (.agg #[v0,v1,v2,v3,v4,v5,v6,v7,v8])).run Tryz.prog w = .ok k2 w) (w:World) :
  (Op.equalIn (d+5) 49 (.agg #[x0,x1,x2,x3,x4,x5,x6,x7,x8,y0,y1,y2,y3,y4,y5,y6,y7,y8,.bool o1,.bool c1]) (.agg #[u0,u1,u2,u3,u4,u5,u6,u7,u8,v0,v1,v2,v3,v4,v5,v6,v7,v8,.bool o2,.bool c2])).run Tryz.prog w = .ok (k1&&(k2&&((o1 == o2)&&(c1 == c2)))) w:=by
 have u3:=Tryz.underlying36
 have a3:=Tryz.isAgg36
 have z3:=Tryz.sizeOf36
 have u4:=Tryz.underlying4
 have aa4:=Tryz.isAgg4
 have z4:=Tryz.sizeOf4
 have hS:Tryz.prog.underlying 49=some (.struct (Tryz.prog.fieldsOf 49)):=by kernel_rfl
 have hp:Tryz.prog.stoodInHeld 49=false:=by kernel_rfl
 rw [run_equalIn_agg w (d+4) 49 _ _ hS hp]
 simp only [Program.fieldsOf,Tryz.underlying49]
 go_simp
 cases k1<;>cases k2<;>cases o1<;>cases o2<;>cases c1<;>cases c2<;>simp
theorem eqI_g:Tryz.prog.eqGuardType Tryz.prog.depth 49=false:=by kernel_rfl
theorem neqR_run (x y:K) (w:World):(binOp .neq 36 (kv x) (kv y)).run Tryz.prog w = .ok (.bool (!decide (x=y))) w:=by
 rw [kv_cells,kv_cells,run_neq_struct,show (10000:Nat)=9996+4 from rfl,eqR_in,eqR_dec]
 have h:(decide (x.1.p=y.1.p)&&(decide (x.1.r=y.1.r)&&(x.1.neg == y.1.neg)))=decide (x=y):=by rw [Bool.eq_iff_iff,Qn.eq_dec,decide_eq_true_iff,K.ext_iff]
 rw [h];rfl
theorem eqR_run (x y:K) (w:World):(binOp .eql 36 (kv x) (kv y)).run Tryz.prog w = .ok (.bool (decide (x=y))) w:=by
 rw [kv_cells,kv_cells,run_eql_struct,show (10000:Nat)=9996+4 from rfl,eqR_in,eqR_dec]
 have h:(decide (x.1.p=y.1.p)&&(decide (x.1.r=y.1.r)&&(x.1.neg == y.1.neg)))=decide (x=y):=by rw [Bool.eq_iff_iff,Qn.eq_dec,decide_eq_true_iff,K.ext_iff]
 rw [h];rfl
theorem eqI_at (i j:Iv K) (w:World):(Op.equalIn 10000 49 (iv i) (iv j)).run Tryz.prog w = .ok (decide (i=j)) w:=by
 rw [iv_cells,iv_cells,show (10000:Nat)=9995+5 from rfl,eqI_in 9995 _ _ _ _ _ _ _ _ _ _ _ _ _ _ _ _ _ _ _ _ _ _ _ _ _ _ _ _ _ _ _ _ _ _ _ _ _ _ _ _ _ _ (fun w=>eqR_in 9995 _ _ _ _ _ _ _ _ _ _ _ _ _ _ _ _ _ _ w) (fun w=>eqR_in 9995 _ _ _ _ _ _ _ _ _ _ _ _ _ _ _ _ _ _ w),eqR_dec,eqR_dec,eqI_dec]
theorem eqlI_run (i j:Iv K) (w:World):(binOp .eql 49 (iv i) (iv j)).run Tryz.prog w = .ok (.bool (decide (i=j))) w:=by
 have h:=eqI_at i j w
 unfold iv at *
 rw [run_eql_struct,h];rfl
end
section
open Classical
theorem quiet_bin {C:World→Prop} {o:Oper} {a:Act} {K:Act→Prop} (op:BinOp) (t:TypeId) (x y:Operand) (s:TypeId) (cx cy:Array Value) (v:Value) (ho:o.op = .binOp op t x y s) (hx:a.eval x = .agg cx) (hy:a.eval y = .agg cy) (hg:Tryz.prog.eqGuardType Tryz.prog.depth t=false)
  (h:∀ w,(binOp op t (.agg cx) (.agg cy)).run Tryz.prog w = .ok v w) (hk:K (a.put o.dst v)):o.quiet Tryz.prog a C K :=
 ⟨v,fun w hw=>by
  unfold Oper.quietAt execOp
  simp only [ho,hx,hy,Sem.run_bind,run_eqGuard_agg (hm:=hg),Result.andThen_ok,h w,Sem.run_pure]
  exact ⟨rfl,rfl⟩,hk⟩
end
section
open Classical
structure RawR where
 a1:Bool
 a2:ByteArray
 a3:Bool
 a4:ByteArray
 b1:Bool
 b2:ByteArray
 b3:Bool
 b4:ByteArray
 n:Bool
def RawR.cells (x:RawR):List Value:=[.bool x.a1,.string x.a2,.bool x.a3,.string x.a4,.bool x.b1,.string x.b2,.bool x.b3,.string x.b4,.bool x.n]
def RawR.v (x:RawR):Value:=.agg #[.bool x.a1,.string x.a2,.bool x.a3,.string x.a4,.bool x.b1,.string x.b2,.bool x.b3,.string x.b4,.bool x.n]
def RawR.of (x:Qn):RawR:=⟨sgB x.p.num,mgS x.p.num,false,dnS x.p.den,sgB x.r.num,mgS x.r.num,false,dnS x.r.den,x.neg⟩
def RawR.isK (x:RawR):Prop:=∃ q:Qn,q.Ok∧x=RawR.of q
def RawR.sz (x:RawR) (k:Nat):Prop:=x.a2.size≤k∧x.a4.size≤k∧x.b2.size≤k∧x.b4.size≤k
theorem RawR.of_inj {x y:Qn} (h:RawR.of x=RawR.of y):x=y:=by
 unfold RawR.of at h
 injection h with h1 h2 h3 h4 h5 h6 h7 h8 h9
 have hp:x.p=y.p:=by
  have:=(eqQ_dec x.p y.p).symm
  rw [h1,h2,h4] at this
  simpa using this
 have hr:x.r=y.r:=by
  have:=(eqQ_dec x.r y.r).symm
  rw [h5,h6,h8] at this
  simpa using this
 cases x;cases y;simp_all
theorem isreal_c (x:RawR) (hs:x.sz 1000000) (w:World):Calls Tryz.prog 134 #[x.v] w fun e w'=>e = .returned (.bool (decide x.isK))∧Keep [] w w':=by
 obtain⟨a1,a2,a3,a4,b1,b2,b3,b4,n⟩:=x
 obtain⟨hs1,hs2,hs3,hs4⟩:=hs
 dsimp only at hs1 hs2 hs3 hs4
 unfold RawR.v
 dsimp only
 have H1:=jX (rcheck_c a1 a2 a3 a4 (by omega) (by omega))
 have H2:=jX (rcheck_c b1 b2 b3 b4 (by omega) (by omega))
 have HX:Hid ((RawR.mk a1 a2 a3 a4 b1 b2 b3 b4 n).isK→chkQ a1 a2 a3 a4=true∧chkQ b1 b2 b3 b4=true):=by
  rintro ⟨q,hq,he⟩
  unfold RawR.of at he
  injection he with h1 h2 h3 h4 h5 h6 h7 h8 h9
  exact ⟨chkQ_iff.2 ⟨q.p,h1,h2,h3,h4⟩,chkQ_iff.2 ⟨q.r,h5,h6,h7,h8⟩⟩
 clear hs1 hs2
 cases hca:chkQ a1 a2 a3 a4 with
 | false =>
  rw [hca] at H1
  have hres:decide (RawR.mk a1 a2 a3 a4 b1 b2 b3 b4 n).isK=false:=decide_eq_false (fun h=>by have:=(HX.out h).1;rw [hca] at this;cases this)
  rw [hres]
  clear hres hca HX hs3 hs4 H2
  go_enter Tryz.func134,Tryz.ntmps134
  go_wp2_with fail
  obtain⟨W,ga,hW,ega,Bga,hga,hgW,HkW⟩:=al1h w (.cells #[.bool a1,.string a2,.bool a3,.string a4,.bool b1,.string b2,.bool b3,.string b4,.bool n] 36)
  rw [← hW]
  try rw [ega]
  clear hW ega
  obtain⟨pga,fga,lga⟩:=jQ Bga
  go_wp2_with fail
  refine (H1.out _).mono ?_
  rintro e w1 ⟨rfl,hk_w1⟩
  dsimp only
  clear pga fga lga
  replace Bga:=jH hk_w1 Bga
  replace HkW:=jX (HkW.out.trans0 hk_w1)
  clear hk_w1
  obtain⟨pga,fga,lga⟩:=jQ Bga
  go_wp2_with fail
  go_ret
  exact ⟨rfl,by repeat (first|(with_reducible exact HkW.out)|(refine Keep.setPast ?_ _ _ _ (by omega))|(refine Keep.allocPast ?_ _)|(refine Keep.drewPast ?_))⟩
 | true =>
  rw [hca] at H1
  cases hcb:chkQ b1 b2 b3 b4 with
  | false =>
   rw [hcb] at H2
   have hres:decide (RawR.mk a1 a2 a3 a4 b1 b2 b3 b4 n).isK=false:=decide_eq_false (fun h=>by have:=(HX.out h).2;rw [hcb] at this;cases this)
   rw [hres]
   clear hres hca hcb HX hs3 hs4
   go_enter Tryz.func134,Tryz.ntmps134
   go_wp2_with fail
   obtain⟨W,ga,hW,ega,Bga,hga,hgW,HkW⟩:=al1h w (.cells #[.bool a1,.string a2,.bool a3,.string a4,.bool b1,.string b2,.bool b3,.string b4,.bool n] 36)
   rw [← hW]
   try rw [ega]
   clear hW ega
   obtain⟨pga,fga,lga⟩:=jQ Bga
   go_wp2_with fail
   refine (H1.out _).mono ?_
   rintro e w1 ⟨rfl,hk_w1⟩
   dsimp only
   clear pga fga lga
   replace Bga:=jH hk_w1 Bga
   replace HkW:=jX (HkW.out.trans0 hk_w1)
   clear hk_w1
   obtain⟨pga,fga,lga⟩:=jQ Bga
   go_wp2_with fail
   refine (H2.out _).mono ?_
   rintro e w2 ⟨rfl,hk_w2⟩
   dsimp only
   clear pga fga lga
   replace Bga:=jH hk_w2 Bga
   replace HkW:=jX (HkW.out.trans0 hk_w2)
   clear hk_w2
   obtain⟨pga,fga,lga⟩:=jQ Bga
   go_wp2_with fail
   go_ret
   exact ⟨rfl,by repeat (first|(with_reducible exact HkW.out)|(refine Keep.setPast ?_ _ _ _ (by omega))|(refine Keep.allocPast ?_ _)|(refine Keep.drewPast ?_))⟩
  | true =>
   rw [hcb] at H2
   obtain⟨p,e1,e2,e3,e4⟩:=chkQ_iff.1 hca
   obtain⟨r,e5,e6,e7,e8⟩:=chkQ_iff.1 hcb
   have hfit:FitQ 10000000 r:=by
    refine ⟨?_,?_⟩
    ·have:=hs3;rw [e6] at this;exact Nat.le_trans this (by decide)
    have:=hs4;rw [e8] at this
    unfold dnS at this
    unfold Fit mgS
    rw [Int.natAbs_natCast]
    split at this
    ·rename_i h1;rw [h1];exact Nat.le_trans ((magS_size 1 1).2 (by decide)) (by decide)
    exact Nat.le_trans this (by decide)
   have HR:=jX (rroot_c r hfit)
   have HS:=jX (rsign_c r)
   rw [zsgn_sgn] at HS
   clear hs3 hs4 hca hcb hfit HX
   subst e1 e2 e3 e4 e5 e6 e7 e8
   have HK1:Hid (∀ q:Qn,q.Ok→q.p=p→q.r=r→q.neg=n→(RawR.mk (sgB p.num) (mgS p.num) false (dnS p.den) (sgB r.num) (mgS r.num) false (dnS r.den) n).isK):=fun q hq h1 h2 h3=>⟨q,hq,by unfold RawR.of;rw [h1,h2,h3]⟩
   have HK2:Hid ((RawR.mk (sgB p.num) (mgS p.num) false (dnS p.den) (sgB r.num) (mgS r.num) false (dnS r.den) n).isK→(⟨p,r,n⟩:Qn).Ok):=by
    rintro ⟨q,hq,he⟩
    have:=RawR.of_inj (x:=⟨p,r,n⟩) (y:=q) he
    rw [this];exact hq
   generalize (RawR.mk (sgB p.num) (mgS p.num) false (dnS p.den) (sgB r.num) (mgS r.num) false (dnS r.den) n).isK=KK at *
   unfold rv at HR HS
   have hsg:=sgn_cases r
   unfold Root2Post rv at HR
   rcases hsg with ⟨hr0,hsg⟩|⟨hr0,hsg⟩|⟨hr0,hsg⟩
   ·have hres:decide KK=false:=decide_eq_false (fun h=>by have:=(HK2.out h).nn;dsimp only at this;grind)
    rw [hres]
    rw [hsg] at HS
    clear hres HK1 HK2 hsg HR hr0
    generalize sgB (p).num=a1 at *
    generalize mgS (p).num=a2 at *
    generalize dnS (p).den=a4 at *
    generalize sgB (r).num=b1 at *
    generalize mgS (r).num=b2 at *
    generalize dnS (r).den=b4 at *
    go_enter Tryz.func134,Tryz.ntmps134
    go_wp2_with fail
    obtain⟨W,ga,hW,ega,Bga,hga,hgW,HkW⟩:=al1h w (.cells #[.bool a1,.string a2,.bool false,.string a4,.bool b1,.string b2,.bool false,.string b4,.bool n] 36)
    rw [← hW]
    try rw [ega]
    clear hW ega
    obtain⟨pga,fga,lga⟩:=jQ Bga
    go_wp2_with fail
    refine (H1.out _).mono ?_
    rintro e w1 ⟨rfl,hk_w1⟩
    dsimp only
    clear pga fga lga
    replace Bga:=jH hk_w1 Bga
    replace HkW:=jX (HkW.out.trans0 hk_w1)
    clear hk_w1
    obtain⟨pga,fga,lga⟩:=jQ Bga
    go_wp2_with fail
    refine (H2.out _).mono ?_
    rintro e w2 ⟨rfl,hk_w2⟩
    dsimp only
    clear pga fga lga
    replace Bga:=jH hk_w2 Bga
    replace HkW:=jX (HkW.out.trans0 hk_w2)
    clear hk_w2
    obtain⟨pga,fga,lga⟩:=jQ Bga
    go_wp2_with fail
    refine (HS.out _).mono ?_
    rintro e w3 ⟨rfl,hk_w3⟩
    dsimp only
    clear pga fga lga
    replace Bga:=jH hk_w3 Bga
    replace HkW:=jX (HkW.out.trans0 hk_w3)
    clear hk_w3
    obtain⟨pga,fga,lga⟩:=jQ Bga
    go_wp2_with fail
    go_ret
    exact ⟨rfl,by repeat (first|(with_reducible exact HkW.out)|(refine Keep.setPast ?_ _ _ _ (by omega))|(refine Keep.allocPast ?_ _)|(refine Keep.drewPast ?_))⟩
   ·have hres : decide KK = !n := by
     cases n with
     | true=>exact decide_eq_false (fun h=>by have:=(HK2.out h).zero hr0;cases this)
     | false=>exact decide_eq_true (HK1.out ⟨p,r,false⟩ ⟨by show (0:Rat)≤r;rw [hr0];grind,fun _=>rfl,fun h=>absurd hr0 h⟩ rfl rfl rfl)
    rw [hres]
    rw [hsg] at HS
    clear hres HK1 HK2 hsg HR hr0
    generalize sgB (p).num=a1 at *
    generalize mgS (p).num=a2 at *
    generalize dnS (p).den=a4 at *
    generalize sgB (r).num=b1 at *
    generalize mgS (r).num=b2 at *
    generalize dnS (r).den=b4 at *
    go_enter Tryz.func134,Tryz.ntmps134
    go_wp2_with fail
    obtain⟨W,ga,hW,ega,Bga,hga,hgW,HkW⟩:=al1h w (.cells #[.bool a1,.string a2,.bool false,.string a4,.bool b1,.string b2,.bool false,.string b4,.bool n] 36)
    rw [← hW]
    try rw [ega]
    clear hW ega
    obtain⟨pga,fga,lga⟩:=jQ Bga
    go_wp2_with fail
    refine (H1.out _).mono ?_
    rintro e w1 ⟨rfl,hk_w1⟩
    dsimp only
    clear pga fga lga
    replace Bga:=jH hk_w1 Bga
    replace HkW:=jX (HkW.out.trans0 hk_w1)
    clear hk_w1
    obtain⟨pga,fga,lga⟩:=jQ Bga
    go_wp2_with fail
    refine (H2.out _).mono ?_
    rintro e w2 ⟨rfl,hk_w2⟩
    dsimp only
    clear pga fga lga
    replace Bga:=jH hk_w2 Bga
    replace HkW:=jX (HkW.out.trans0 hk_w2)
    clear hk_w2
    obtain⟨pga,fga,lga⟩:=jQ Bga
    go_wp2_with fail
    refine (HS.out _).mono ?_
    rintro e w3 ⟨rfl,hk_w3⟩
    dsimp only
    clear pga fga lga
    replace Bga:=jH hk_w3 Bga
    replace HkW:=jX (HkW.out.trans0 hk_w3)
    clear hk_w3
    obtain⟨pga,fga,lga⟩:=jQ Bga
    go_wp2_with fail
    refine (HS.out _).mono ?_
    rintro e w4 ⟨rfl,hk_w4⟩
    dsimp only
    clear pga fga lga
    replace Bga:=jH hk_w4 Bga
    replace HkW:=jX (HkW.out.trans0 hk_w4)
    clear hk_w4
    obtain⟨pga,fga,lga⟩:=jQ Bga
    go_wp2_with fail
    go_ret
    exact ⟨rfl,by repeat (first|(with_reducible exact HkW.out)|(refine Keep.setPast ?_ _ _ _ (by omega))|(refine Keep.allocPast ?_ _)|(refine Keep.drewPast ?_))⟩
   have HRes:Hid (∀ q ok,QRoot r q ok→decide KK = !ok):=by
    intro q ok hq
    cases ok with
    | true=>exact decide_eq_false (fun h=>(HK2.out h).sq (by dsimp only;grind) q (hq.1 rfl).2)
    | false=>exact decide_eq_true (HK1.out ⟨p,r,n⟩ ⟨by show (0:Rat)≤r;grind,fun h=>absurd h (by dsimp only;grind),fun _=>(hq.2 rfl).2⟩ rfl rfl rfl)
   generalize decide KK=res at *
   rw [hsg] at HS
   have HR:Hid (∀ w:World,Calls Tryz.prog 142 #[.agg #[.bool (sgB r.num),.string (mgS r.num),.bool false,.string (dnS r.den)]] w fun e w'=>∃ n s d ok,e = .returned (.tuple #[.agg #[.bool n,.string s,.bool false,.string d],.bool ok])∧res = !ok∧Keep [] w w'):=fun w=>(HR.out w).mono (fun e w' h=>by
    obtain⟨q,ok,he,hq,hk⟩:=h
    exact ⟨_,_,_,ok,he,HRes.out q ok hq,hk⟩)
   clear HRes HK1 HK2 hsg hr0
   generalize sgB (p).num=a1 at *
   generalize mgS (p).num=a2 at *
   generalize dnS (p).den=a4 at *
   generalize sgB (r).num=b1 at *
   generalize mgS (r).num=b2 at *
   generalize dnS (r).den=b4 at *
   go_enter Tryz.func134,Tryz.ntmps134
   go_wp2_with fail
   obtain⟨W,ga,hW,ega,Bga,hga,hgW,HkW⟩:=al1h w (.cells #[.bool a1,.string a2,.bool false,.string a4,.bool b1,.string b2,.bool false,.string b4,.bool n] 36)
   rw [← hW]
   try rw [ega]
   clear hW ega
   obtain⟨pga,fga,lga⟩:=jQ Bga
   go_wp2_with fail
   refine (H1.out _).mono ?_
   rintro e w1 ⟨rfl,hk_w1⟩
   dsimp only
   clear pga fga lga
   replace Bga:=jH hk_w1 Bga
   replace HkW:=jX (HkW.out.trans0 hk_w1)
   clear hk_w1
   obtain⟨pga,fga,lga⟩:=jQ Bga
   go_wp2_with fail
   refine (H2.out _).mono ?_
   rintro e w2 ⟨rfl,hk_w2⟩
   dsimp only
   clear pga fga lga
   replace Bga:=jH hk_w2 Bga
   replace HkW:=jX (HkW.out.trans0 hk_w2)
   clear hk_w2
   obtain⟨pga,fga,lga⟩:=jQ Bga
   go_wp2_with fail
   refine (HS.out _).mono ?_
   rintro e w3 ⟨rfl,hk_w3⟩
   dsimp only
   clear pga fga lga
   replace Bga:=jH hk_w3 Bga
   replace HkW:=jX (HkW.out.trans0 hk_w3)
   clear hk_w3
   obtain⟨pga,fga,lga⟩:=jQ Bga
   go_wp2_with fail
   refine (HS.out _).mono ?_
   rintro e w4 ⟨rfl,hk_w4⟩
   dsimp only
   clear pga fga lga
   replace Bga:=jH hk_w4 Bga
   replace HkW:=jX (HkW.out.trans0 hk_w4)
   clear hk_w4
   obtain⟨pga,fga,lga⟩:=jQ Bga
   go_wp2_with fail
   refine (HR.out _).mono ?_
   rintro e w5 ⟨qn,qs,qd,ok,rfl,rfl,hk_w5⟩
   dsimp only
   clear pga fga lga
   replace Bga:=jH hk_w5 Bga
   replace HkW:=jX (HkW.out.trans0 hk_w5)
   clear hk_w5
   go_wp2_with fail
   go_ret
   exact ⟨rfl,by repeat (first|(with_reducible exact HkW.out)|(refine Keep.setPast ?_ _ _ _ (by omega))|(refine Keep.allocPast ?_ _)|(refine Keep.drewPast ?_))⟩
end
end Go.Proofs.YtejegogbhpmgfaaGreatDoor
