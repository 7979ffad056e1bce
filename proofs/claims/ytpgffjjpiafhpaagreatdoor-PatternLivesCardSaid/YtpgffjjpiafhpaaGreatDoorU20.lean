/- Parts of a proof: Fa Fb Wa. -/
import Derived.Test.YtpgffjjpiafhpaaGreatDoorU19
import Derived.Test.YtpgffjjpiafhpaaGreatDoorU14
set_option linter.unusedVariables false
set_option linter.unusedSimpArgs false
set_option linter.unusedSectionVars false
set_option maxRecDepth 100000
set_option maxHeartbeats 8000000
namespace Go.Proofs.YtpgffjjpiafhpaaGreatDoor
open Go.RowKit
section
open Classical
theorem mvQ_le {x:Qn} (hx:0≤x.r) {q:Rat} (h0:0≤q) (h:Lt (mvQ x q) x):False:=by
 obtain⟨r,h1,h2⟩:=h;have h3:Above1 r x:=Pos.mono hx h1 (by show r-(x.p+q)≤r-x.p;grind)
 have:=ybw hx h2 h3;grind
theorem yfT {x:Qn} (hx:0≤x.r) {a b:Rat} (hab:a≤b) (h:Lt (mvQ x b) (mvQ x a)):False:=by
 refine mvQ_le (x:=mvQ x a) (q:=b-a) hx (by grind) ?_
 have e:mvQ (mvQ x a) (b-a)=mvQ x b:=by
  unfold mvQ;have:x.p+a+(b-a)=x.p+b:=by grind
  dsimp only;rw [this]
 rw [e];exact h
noncomputable def mvB (q:Rat) (b:Bd K):Bd K:=⟨mvK q b.pt,b.beh⟩
noncomputable def eroI (q:Rat) (i:Iv K):Iv K:=⟨i.f,mvB (-q) i.l⟩
noncomputable def okI (i:Iv K):Bool:=decide (i.f<i.l)
noncomputable def eroL (q:Rat) (l:List (Iv K)):List (Iv K):=(l.map (eroI q)).filter okI
noncomputable def eroK (q:Rat) (l:List (Iv K)):List (Iv K):=normK (eroL q l)
noncomputable def swpI (a b:Rat) (i:Iv K):Iv K:=⟨mvB a i.f,mvB b i.l⟩
noncomputable def swpL (a b:Rat) (l:List (Iv K)):List (Iv K):=l.map (swpI a b)
noncomputable def swpK (a b:Rat) (l:List (Iv K)):List (Iv K):=normK (swpL a b l)
theorem yic {i:Iv K}:okI i=true↔i.f<i.l:=by unfold okI;rw [decide_eq_true_iff]
theorem eroL_val {q:Rat} {l:List (Iv K)}:∀ i∈eroL q l,i.f<i.l:=fun i hi=>yic.1 (List.mem_filter.1 hi).2
theorem ydG {q:Rat} {l:List (Iv K)} {i:Iv K}:i∈eroL q l↔(∃ j∈l,eroI q j=i)∧i.f<i.l:=by
 unfold eroL;rw [List.mem_filter,List.mem_map,yic]
theorem mvK_add {k:Nat} {x:K} {a b:Rat} (h:Sm k x) (hk:k≤80000) (ha:FitQ 24 a) (hb:FitQ 24 b) (hab:FitQ 24 (a+b)):mvK b (mvK a x)=mvK (a+b) x:=by
 refine Subtype.ext ?_;rw [yaS (ycG h (by omega) ha) (by omega) hb,yaS h (by omega) ha,yaS h (by omega) hab];unfold mvQ;have e:x.1.p+a+b=x.1.p+(a+b):=by grind
 dsimp only;rw [e]
theorem Sm.mono {k m:Nat} {x:K} (h:Sm k x) (hk:k≤m):Sm m x:=⟨h.1.mono hk,h.2.mono hk⟩
theorem SmI.mono {k m:Nat} {i:Iv K} (h:SmI k i) (hk:k≤m):SmI m i:=⟨h.1.mono hk,h.2.mono hk⟩
theorem eroI_sm {k:Nat} {i:Iv K} {q:Rat} (h:SmI k i) (hk:k≤80000) (hq:FitQ 24 q):SmI (k+25) (eroI q i):=⟨h.1.mono (by omega),ycG h.2 (by omega) hq.neg⟩
theorem swpI_sm {k:Nat} {i:Iv K} {a b:Rat} (h:SmI k i) (hk:k≤80000) (ha:FitQ 24 a) (hb:FitQ 24 b):SmI (k+25) (swpI a b i):=⟨ycG h.1 (by omega) ha,ycG h.2 (by omega) hb⟩
theorem eroL_sm {k:Nat} {l:List (Iv K)} {q:Rat} (h:∀ i∈l,SmI k i) (hk:k≤80000) (hq:FitQ 24 q):∀ i∈eroL q l,SmI (k+25) i:=fun i hi=>by
 obtain⟨⟨j,hj,rfl⟩,_⟩:=ydG.1 hi;exact eroI_sm (h j hj) hk hq
theorem swpL_sm {k:Nat} {l:List (Iv K)} {a b:Rat} (h:∀ i∈l,SmI k i) (hk:k≤80000) (ha:FitQ 24 a) (hb:FitQ 24 b):∀ i∈swpL a b l,SmI (k+25) i:=fun i hi=>by
 obtain⟨j,hj,rfl⟩:=List.mem_map.1 hi;exact swpI_sm (h j hj) hk ha hb
theorem ygc {k:Nat} {op:Int} {a b:List (Iv K)} (ha:∀ i∈a,SmI k i) (hb:∀ i∈b,SmI k i):∀ i∈combK op a b,SmI k i:=fun i hi=>by
 have hp:=ydF (op:=op) (PtsIn.self (a++b) |>.sub fun i hi=>List.mem_append_left _ hi) (PtsIn.self (a++b) |>.sub fun i hi=>List.mem_append_right _ hi) i hi
 have hs:∀ x∈ptsL (a++b),Sm k x:=fun x hx=>by
  obtain⟨j,hj,h⟩:=ycg.1 hx
  have hj:SmI k j:=by
   rcases List.mem_append.1 hj with hj|hj
   ·exact ha j hj
   exact hb j hj
  rcases h with rfl|rfl
  ·exact hj.1
  exact hj.2
 exact ⟨hs _ hp.1,hs _ hp.2⟩
theorem yes {k:Nat} {a:List (Iv K)} (ha:∀ i∈a,SmI k i):∀ i∈normK a,SmI k i:=ygc ha (by simp)
section
variable {k:Nat} {q:Rat} (hk:k≤80000) (hq:FitQ 24 q)
include hk hq
end
section
variable {k:Nat} (hk:k≤70000)
include hk
end
theorem sub_cov {a b:List (Iv K)} (h:SubL a b):combK 3 a b=[]:=yey (l:=[]) trivial fun x=>by
 rw [ycV];show false=(hasL a x && !hasL b x)
 cases ha:hasL a x
 ·rfl
 rw [h x ha];rfl
theorem cov_sub {a b:List (Iv K)}:combK 3 a b=[]↔SubL a b:=by
 refine ⟨fun h x hx=>?_,sub_cov⟩;have:=ybY 3 a b x;rw [h,ycV] at this;have this:false=(hasL a x && !hasL b x):=this;rw [hx] at this;cases hb:hasL b x
 ·rw [hb] at this;cases this
 rfl
theorem ero_law {k:Nat} (hk:k≤70000) {q:Rat} (hq:FitQ 24 q) (h0:0≤q) {l:List (Iv K)} (hl:Norm l) (sl:∀ i∈l,SmI k i) {t:K} (ht:Sm k t):holds (eroK q l) t=decide (combK 3 [⟨⟨t,false⟩,⟨mvK q t,true⟩⟩] l=[]):=by
 have hb:mvK (-q) (mvK q t)=t:=yfK ht (by omega) hq;have hqt:Sm (k+25) (mvK q t):=ycG ht (by omega) hq
 have hle:t≤mvK q t:=by
  rw [K.le_def,yaS ht (by omega) hq];exact fun hlt=>mvQ_le t.2.1.nn h0 hlt
 have hv:∀ i∈[(⟨⟨t,false⟩,⟨mvK q t,true⟩⟩:Iv K)],i.f<i.l:=fun i hi=>by
  rw [List.mem_singleton] at hi;subst hi;rw [Bd.lt_def];grind
 rw [ybs,Bool.eq_iff_iff,decide_eq_true_iff,cov_sub];show hasL (normK (eroL q l)) _=true↔_
 rw [yhn,ybn];constructor
 ·rintro ⟨i',hi',h1,h2⟩
  obtain⟨⟨i,hi,rfl⟩,hvi⟩:=ydG.1 hi';have g1:i.f≤⟨t,false⟩:=h1;have g2:(⟨t,false⟩:Bd K)<mvB (-q) i.l:=h2
  have g3:(⟨mvK q t,false⟩:Bd K)<i.l:=by
   refine (yei (k:=k+25) (q:=-q) (by omega) hq.neg hqt ((sl i hi).2.mono (by omega))).1 ?_;dsimp only;rw [hb];exact g2
  intro x hx;obtain⟨j,hj,h3,h4⟩:=ybn.1 hx;rw [List.mem_singleton] at hj;subst hj;refine ybn.2 ⟨i,hi,by dsimp only at h3;grind,?_⟩;dsimp only at h3 h4;rw [Bd.lt_def] at *;rw [Bd.le_def] at h3;grind
 intro hs;obtain⟨j,hj,h3,h4⟩:=sub_in hl hv hs _ (List.mem_singleton.2 rfl);dsimp only at h3 h4
 have g3:(⟨mvK q t,false⟩:Bd K)<j.l:=by
  rw [Bd.le_def] at h4;rw [Bd.lt_def];grind
 have g2:(⟨t,false⟩:Bd K)<mvB (-q) j.l:=by
  have:=(yei (k:=k+25) (q:=-q) (by omega) hq.neg hqt ((sl j hj).2.mono (by omega))).2 g3;dsimp only at this;rw [hb] at this;exact this
 refine ⟨eroI q j,ydG.2 ⟨⟨j,hj,rfl⟩,?_⟩,h3,g2⟩;show j.f<mvB (-q) j.l
 grind
theorem swp_law {k:Nat} (hk:k≤70000) {a b:Rat} (ha:FitQ 24 a) (hb:FitQ 24 b) (hab:a≤b) {l:List (Iv K)} (hl:Norm l) (sl:∀ i∈l,SmI k i) {t:K} (ht:Sm k t):holds (swpK a b l) t=decide (combK 2 l [⟨⟨mvK (-b) t,false⟩,⟨mvK (-a) t,true⟩⟩]≠[]):=by
 have ea:mvK a (mvK (-a) t)=t:=by have:=yfK ht (by omega) (q:=-a) ha.neg;rwa [Rat.neg_neg] at this
 have eb:mvK b (mvK (-b) t)=t:=by have:=yfK ht (by omega) (q:=-b) hb.neg;rwa [Rat.neg_neg] at this
 have sa:Sm (k+25) (mvK (-a) t):=ycG ht (by omega) ha.neg;have sb:Sm (k+25) (mvK (-b) t):=ycG ht (by omega) hb.neg
 have hle:mvK (-b) t≤mvK (-a) t:=by
  rw [K.le_def,yaS ht (by omega) ha.neg,yaS ht (by omega) hb.neg];exact fun hlt=>yfT t.2.1.nn (by grind) hlt
 rw [ybs,Bool.eq_iff_iff,decide_eq_true_iff];show hasL (normK (swpL a b l)) _=true↔_
 rw [yhn,ybn,Ne,hasL_ne (yau _ _ _)];constructor
 ·rintro ⟨i',hi',h1,h2⟩ hz
  obtain⟨i,hi,rfl⟩:=List.mem_map.1 hi';have hi2:=sl i hi;have hvi:=hl.val i hi;have g1:mvB a i.f≤⟨t,false⟩:=h1;have g2:(⟨t,false⟩:Bd K)<mvB b i.l:=h2
  have g3:i.f≤⟨mvK (-a) t,false⟩:=by
   refine (mvB_le (k:=k+25) (q:=a) (by omega) ha (hi2.1.mono (by omega)) sa).1 ?_;dsimp only;rw [ea];exact g1
  have g4:(⟨mvK (-b) t,false⟩:Bd K)<i.l:=by
   refine (yei (k:=k+25) (q:=b) (by omega) hb sb (hi2.2.mono (by omega))).1 ?_;dsimp only;rw [eb];exact g2
  by_cases hc:i.f≤⟨mvK (-b) t,false⟩
  ·have:=hz ⟨mvK (-b) t,false⟩
   rw [ybY] at this;have this:(hasL l ⟨mvK (-b) t,false⟩&&hasL [⟨⟨mvK (-b) t,false⟩,⟨mvK (-a) t,true⟩⟩] ⟨mvK (-b) t,false⟩)=false:=this;rw [ybn.2 ⟨i,hi,hc,g4⟩,ybn.2 ⟨_,List.mem_singleton.2 rfl,by dsimp only;grind,by dsimp only;rw [Bd.lt_def];grind⟩] at this;cases this
  have:=hz i.f;rw [ybY] at this;have this:(hasL l i.f&&hasL [⟨⟨mvK (-b) t,false⟩,⟨mvK (-a) t,true⟩⟩] i.f)=false:=this;rw [ybn.2 ⟨i,hi,by grind,hvi⟩,ybn.2 ⟨_,List.mem_singleton.2 rfl,by dsimp only;grind,by dsimp only;rw [Bd.lt_def];rw [Bd.le_def] at g3;grind⟩] at this;cases this
 intro hz
 have hz:∃ x,hasL (combK 2 l [⟨⟨mvK (-b) t,false⟩,⟨mvK (-a) t,true⟩⟩]) x=true:=by
  apply Classical.byContradiction;intro hn
  exact hz fun x=>by
   cases h:hasL (combK 2 l [⟨⟨mvK (-b) t,false⟩,⟨mvK (-a) t,true⟩⟩]) x
   ·rfl
   exact absurd ⟨x,h⟩ hn
 obtain⟨x,hx⟩:=hz;rw [ybY] at hx;have hx:(hasL l x&&hasL [⟨⟨mvK (-b) t,false⟩,⟨mvK (-a) t,true⟩⟩] x)=true:=hx;rw [Bool.and_eq_true] at hx;obtain⟨i,hi,h1,h2⟩:=ybn.1 hx.1;obtain⟨j,hj,h3,h4⟩:=ybn.1 hx.2;rw [List.mem_singleton] at hj;subst hj;dsimp only at h3 h4;have hi2:=sl i hi
 have g3:i.f≤⟨mvK (-a) t,false⟩:=by
  rw [Bd.lt_def] at h4;rw [Bd.le_def] at h1 ⊢;grind
 have g4:(⟨mvK (-b) t,false⟩:Bd K)<i.l:=by grind
 refine ⟨swpI a b i,List.mem_map_of_mem hi,?_,?_⟩
 ·have:=(mvB_le (k:=k+25) (q:=a) (by omega) ha (hi2.1.mono (by omega)) sa).2 g3
  dsimp only at this;rw [ea] at this;exact this
 have:=(yei (k:=k+25) (q:=b) (by omega) hb sb (hi2.2.mono (by omega))).2 g4;dsimp only at this;rw [eb] at this;exact this
end
section
open Classical
structure St where
 d:List (Iv K)
 g:Rat
 a:Rat
 b:Rat
noncomputable def rchS (s:Nat→St):Nat→List (Iv K)
 | 0=>eroK (s 0).g (s 0).d
 | i+1=>combK 2 (eroK (s (i+1)).g (s (i+1)).d) (swpK (s (i+1)).a (s (i+1)).b ((rchS s i).map (mvI (s i).g)))
noncomputable def livS (s:Nat→St) (n:Nat):Nat→List (Iv K)
 | 0=>rchS s (n-1)
 | j+1=>combK 2 (rchS s (n-2-j)) (swpK (-((s (n-2-j+1)).b+(s (n-2-j)).g)) (-((s (n-2-j+1)).a+(s (n-2-j)).g)) (livS s n j))
structure StOk (s:Nat→St):Prop where
 norm:∀ i,Norm (s i).d
 pts:∀ i,∃ S:List K,S.length≤16∧(∀ x∈S,Sm 28 x)∧PtsIn S (s i).d
 g:∀ i,FitQ 8 (s i).g
 a:∀ i,FitQ 8 (s i).a
 b:∀ i,FitQ 8 (s i).b
theorem ydc {a b:Rat} (h:FitQ 8 a) (k:FitQ 8 b):FitQ 24 (a+b):=(FitQ.add h k).mono (by omega)
theorem ybI {a:Rat} (h:FitQ 8 a):FitQ 24 a:=h.mono (by omega)
theorem StOk.sm {s:Nat→St} (h:StOk s) (i:Nat):∀ j∈(s i).d,SmI 28 j:=fun j hj=>by
 obtain⟨S,_,h1,h2⟩:=h.pts i;exact ⟨h1 _ (h2 j hj).1,h1 _ (h2 j hj).2⟩
theorem rch_norm {s:Nat→St}:∀ i,Norm (rchS s i)
 | 0=>yau _ _ _
 | _+1=>yau _ _ _
theorem yet {s:Nat→St} {n:Nat}:∀ j,Norm (livS s n j)
 | 0=>rch_norm _
 | _+1=>yau _ _ _
section
variable {s:Nat→St} (h:StOk s)
include h
theorem rch_sm:∀ i,i≤4→∀ j∈rchS s i,SmI (53+50*i) j
 | 0,_=>yes (eroL_sm (h.sm 0) (by omega) (ybI (h.g 0)))
 | i+1,hi=>by
  refine ygc (fun j hj=>(yes (eroL_sm (h.sm (i+1)) (by omega) (ybI (h.g (i+1)))) j hj).mono (by omega)) (yes fun j hj=>?_)
  have:=swpL_sm (k:=53+50*i+25) (l:=(rchS s i).map (mvI (s i).g)) (fun j hj=>by
   obtain⟨j',hj',rfl⟩:=List.mem_map.1 hj
   exact mvI_sm (rch_sm i (by omega) j' hj') (by omega) (ybI (h.g i))) (by omega) (ybI (h.a (i+1))) (ybI (h.b (i+1))) j hj
  exact this.mono (by omega)
theorem yiA {n:Nat} (hn:n≤4):∀ j,j≤4→∀ x∈livS s n j,SmI (253+25*j) x
 | 0,_=>fun x hx=>(rch_sm h (n-1) (by omega) x hx).mono (by omega)
 | j+1,hj=>by
  refine ygc (fun x hx=>(rch_sm h (n-2-j) (by omega) x hx).mono (by omega)) (yes fun x hx=>?_);have:=swpL_sm (k:=253+25*j) (yiA hn j (by omega)) (by omega) (ydc (h.b (n-2-j+1)) (h.g (n-2-j))).neg (ydc (h.a (n-2-j+1)) (h.g (n-2-j))).neg x hx;exact this.mono (by omega)
end
theorem ero_pts {S:List K} {q:Rat} {l:List (Iv K)} (h:PtsIn S l):PtsIn (S++S.map (mvK (-q))) (eroL q l):=fun i hi=>by
 obtain⟨⟨j,hj,rfl⟩,_⟩:=ydG.1 hi;exact ⟨List.mem_append_left _ (h j hj).1,List.mem_append_right _ (List.mem_map_of_mem (h j hj).2)⟩
theorem swp_pts {S:List K} {a b:Rat} {l:List (Iv K)} (h:PtsIn S l):PtsIn (S.map (mvK a)++S.map (mvK b)) (swpL a b l):=fun i hi=>by
 obtain⟨j,hj,rfl⟩:=List.mem_map.1 hi;exact ⟨List.mem_append_left _ (List.mem_map_of_mem (h j hj).1),List.mem_append_right _ (List.mem_map_of_mem (h j hj).2)⟩
theorem mv_pts {S:List K} {q:Rat} {l:List (Iv K)} (h:PtsIn S l):PtsIn (S.map (mvK q)) (l.map (mvI q)):=fun i hi=>by
 obtain⟨j,hj,rfl⟩:=List.mem_map.1 hi;exact ⟨List.mem_map_of_mem (h j hj).1,List.mem_map_of_mem (h j hj).2⟩
def Few (n:Nat) (l:List (Iv K)):Prop:=∃ S:List K,S.length≤n∧PtsIn S l
theorem Few.mono {n m:Nat} {l:List (Iv K)} (h:Few n l) (hn:n≤m):Few m l:=by
 obtain⟨S,h1,h2⟩:=h;exact ⟨S,by omega,h2⟩
theorem Few.len {n:Nat} {l:List (Iv K)} (h:Few n l) (hl:Norm l):l.length≤2*n:=by
 obtain⟨S,h1,h2⟩:=h;have:=hl.len h2;omega
theorem Few.comb {n m:Nat} {op:Int} {a b:List (Iv K)} (h:Few n a) (k:Few m b):Few (n+m) (combK op a b):=by
 obtain⟨S,h1,h2⟩:=h;obtain⟨T,k1,k2⟩:=k;exact ⟨S++T,by rw [List.length_append];omega,ydF (h2.mono fun x hx=>List.mem_append_left _ hx) (k2.mono fun x hx=>List.mem_append_right _ hx)⟩
theorem Few.norm {n:Nat} {a:List (Iv K)} (h:Few n a):Few n (normK a):=h.comb (m:=0) ⟨[],Nat.le_refl _,PtsIn.nil _⟩
theorem Few.ero {n:Nat} {q:Rat} {l:List (Iv K)} (h:Few n l):Few (2*n) (eroK q l):=by
 obtain⟨S,h1,h2⟩:=h;exact Few.norm ⟨_,by rw [List.length_append,List.length_map];omega,ero_pts h2⟩
theorem Few.swp {n:Nat} {a b:Rat} {l:List (Iv K)} (h:Few n l):Few (2*n) (swpK a b l):=by
 obtain⟨S,h1,h2⟩:=h;exact Few.norm ⟨_,by rw [List.length_append,List.length_map,List.length_map];omega,swp_pts h2⟩
theorem Few.mv {n:Nat} {q:Rat} {l:List (Iv K)} (h:Few n l):Few n (l.map (mvI q)):=by
 obtain⟨S,h1,h2⟩:=h;exact ⟨_,by rw [List.length_map];omega,mv_pts h2⟩
theorem StOk.few {s:Nat→St} (h:StOk s) (i:Nat):Few 16 (s i).d:=by
 obtain⟨S,h1,_,h2⟩:=h.pts i;exact ⟨S,h1,h2⟩
section
variable {s:Nat→St} (h:∀ i,Few 16 (s i).d)
include h
theorem rch_few:∀ i,i≤3→Few (64*2 ^ i-32) (rchS s i)
 | 0,_=>((h 0).ero).mono (by omega)
 | i+1,hi=>by
  refine ((h (i+1)).ero.comb ((rch_few i (by omega)).mv.swp)).mono ?_;have:i=0∨i=1∨i=2:=by omega
  rcases this with rfl|rfl|rfl<;>decide
theorem yhJ {n:Nat} (hn:1≤n) (h4:n≤4):∀ j,j<n→Few 4960 (livS s n j):=by
 have r0:=rch_few h 0 (by omega);have r1:=rch_few h 1 (by omega);have r2:=rch_few h 2 (by omega);have r3:=rch_few h 3 (by omega);intro j hj;have:n=1∨n=2∨n=3∨n=4:=by omega
 rcases this with rfl|rfl|rfl|rfl
 ·have:j=0:=by omega
  subst this;exact Few.mono r0 (by decide)
 ·have l0:Few 96 (livS s 2 0):=Few.mono r1 (by decide)
  have l1:Few (32+2*96) (livS s 2 1):=(Few.mono r0 (by decide)).comb l0.swp;have:j=0∨j=1:=by omega
  rcases this with rfl|rfl
  ·exact l0.mono (by decide)
  exact l1.mono (by decide)
 ·have l0:Few 224 (livS s 3 0):=Few.mono r2 (by decide)
  have l1:Few (96+2*224) (livS s 3 1):=(Few.mono r1 (by decide)).comb l0.swp;have l2:Few (32+2*(96+2*224)) (livS s 3 2):=(Few.mono r0 (by decide)).comb l1.swp;have:j=0∨j=1∨j=2:=by omega
  rcases this with rfl|rfl|rfl
  ·exact l0.mono (by decide)
  ·exact l1.mono (by decide)
  exact l2.mono (by decide)
 have l0:Few 480 (livS s 4 0):=Few.mono r3 (by decide);have l1:Few (224+2*480) (livS s 4 1):=(Few.mono r2 (by decide)).comb l0.swp;have l2:Few (96+2*(224+2*480)) (livS s 4 2):=(Few.mono r1 (by decide)).comb l1.swp;have l3:Few (32+2*(96+2*(224+2*480))) (livS s 4 3):=(Few.mono r0 (by decide)).comb l2.swp;have:j=0∨j=1∨j=2∨j=3:=by omega
 rcases this with rfl|rfl|rfl|rfl
 ·exact l0.mono (by decide)
 ·exact l1.mono (by decide)
 ·exact l2.mono (by decide)
 exact l3.mono (by decide)
end
section
variable {s:Nat→St} (h:∀ i,Few 16 (s i).d)
include h
theorem liv_few2 {n:Nat} (h4:n≤4):∀ j,j+1<n→Few 2464 (livS s n j):=by
 have r1:=rch_few h 1 (by omega);have r2:=rch_few h 2 (by omega);have r3:=rch_few h 3 (by omega);intro j hj;have:n=2∨n=3∨n=4:=by omega
 rcases this with rfl|rfl|rfl
 ·have:j=0:=by omega
  subst this;exact Few.mono r1 (by decide)
 ·have l0:Few 224 (livS s 3 0):=Few.mono r2 (by decide)
  have l1:Few (96+2*224) (livS s 3 1):=(Few.mono r1 (by decide)).comb l0.swp;have:j=0∨j=1:=by omega
  rcases this with rfl|rfl
  ·exact l0.mono (by decide)
  exact l1.mono (by decide)
 have l0:Few 480 (livS s 4 0):=Few.mono r3 (by decide);have l1:Few (224+2*480) (livS s 4 1):=(Few.mono r2 (by decide)).comb l0.swp;have l2:Few (96+2*(224+2*480)) (livS s 4 2):=(Few.mono r1 (by decide)).comb l1.swp;have:j=0∨j=1∨j=2:=by omega
 rcases this with rfl|rfl|rfl
 ·exact l0.mono (by decide)
 ·exact l1.mono (by decide)
 exact l2.mono (by decide)
end
section
variable {s t:Nat→St} (h:StOk s) {q:Rat} (hq:FitQ 24 q)
 (hd:∀ i,(t i).d=(s i).d.map (mvI q)) (hg:∀ i,(t i).g=(s i).g) (ha:∀ i,(t i).a=(s i).a) (hb:∀ i,(t i).b=(s i).b)
include h hq hd hg ha hb
end
section
variable {s t:Nat→St} (h:StOk s) (k:StOk t)
 (hd:∀ i,SubL (t i).d (s i).d) (hg:∀ i,(t i).g=(s i).g) (ha:∀ i,(t i).a=(s i).a) (hb:∀ i,(t i).b=(s i).b)
include h k hd hg ha hb
end
structure PartA where
 a:Nat
 b:Nat
 ha:a<256
 hb:b<256
structure EvA where
 ps:List PartA
 o:Nat
 g:Nat
 w:Nat
 r:Nat
 ho:o<256
 hg:g<256
 hw:w<256
 hr:r<256
end
structure Ht (M L B:Rat) (x:Qn):Prop where
 ok:x.Ok
 m:∃ i:Int,x.p*M=i
 l:∃ j:Int,x.r*L=j
 lo : -B≤x.p
 hi:x.p≤B
 rt:x.r≤B*B
theorem int_far {z:Rat} {i:Int} (h:z=i) (h0:z≠0):1≤z∨z ≤ -1:=by
 subst h;have h1:i≠0:=fun e=>h0 (by rw [e];rfl);rcases Int.lt_or_gt_of_ne h1 with h2|h2
 ·right
  have:(i:Rat)≤((-1:Int):Rat):=Rat.intCast_le_intCast.2 (by omega)
  simpa using this
 left
 have:((1:Int):Rat)≤(i:Rat):=Rat.intCast_le_intCast.2 (by omega)
 simpa using this
def nrm (d r s:Rat):Rat:=(d*d+s-r)*(d*d+s-r)-4*(d*d)*s
theorem nrm_int {d r s M L:Rat} {i j l m n:Int} (hM:M=m) (hL:L=n) (hd:d*M=i) (hr:r*L=j) (hs:s*L=l):nrm d r s*(M*M*(M*M)*(L*L))=((i*i*(i*i)*(n*n)-2*(i*i)*(j+l)*(m*m)*n+(l-j)*(l-j)*(m*m)*(m*m):Int):Rat):=by
 simp only [Rat.intCast_add,Rat.intCast_sub,Rat.intCast_mul];rw [← hd,← hr,← hs,← hM,← hL];unfold nrm;have:((2:Int):Rat)=2:=rfl;rw [this];grind
theorem nrm_mul (d t w u v:Rat) (hu:u=1∨u = -1) (hv:v=1∨v = -1):nrm d (t*t) (w*w)=(d+v*w-u*t)*((d+v*w+u*t)*((d-v*w-u*t)*(d-v*w+u*t))):=by
 unfold nrm;rcases hu with rfl|rfl<;>rcases hv with rfl|rfl<;>grind
theorem yiE {a b A C:Rat} (ha : -A≤a∧a≤A) (hb : -C≤b∧b≤C) : -(A*C)≤a*b∧a*b≤A*C:=by
 obtain⟨a1,a2⟩:=ha;obtain⟨b1,b2⟩:=hb;have x1:=yas (a:=A-a) (b:=C-b) (by grind) (by grind);have x2:=yas (a:=A+a) (b:=C+b) (by grind) (by grind);have x3:=yas (a:=A-a) (b:=C+b) (by grind) (by grind);have x4:=yas (a:=A+a) (b:=C-b) (by grind) (by grind);constructor<;>grind
theorem nrm_near {d r s a b B:Rat} (hB:1≤B) (hd : -(2*B)≤d∧d≤2*B) (hr:0≤a∧a≤r∧r≤B*B) (hs:0≤b∧b≤s∧s≤B*B) :
  nrm d r s-nrm d a b≤10*(B*B)*((r-a)+(s-b)) ∧ -(10*(B*B)*((r-a)+(s-b)))≤nrm d r s-nrm d a b:=by
 have e:nrm d r s-nrm d a b = -(2*((d*d)*((r-a)+(s-b))))+((s-b)-(r-a))*((s-r)+(b-a)):=by unfold nrm;grind
 have d1:=(yiE hd hd).2;have d2:=ycD d;generalize d*d=D at *;generalize he:(r-a)+(s-b)=E at *;have E0:0≤E:=by grind
 have x1:=yas d2 E0;have x2:=yaq d1 E0;have x3:=yiE (a:=(s-b)-(r-a)) (b:=(s-r)+(b-a)) (A:=E) (C:=2*(B*B)) (by grind) (by grind);rw [e];constructor<;>grind
theorem sep_core {M L B:Rat} {x y:Qn} (hM:1≤M) (hL:1≤L) (hB:1≤B) (hMi:∃ m:Int,M=m) (hLi:∃ n:Int,L=n) (hx:Ht M L B x) (hy:Ht M L B y) (h:Lt x y) :
  ∃ e0:Rat,0<e0∧∀ e t w,0<e→e≤e0→Near x.r t e→Near y.r w e→1≤128*(B*B*B)*(M*M*(M*M)*(L*L))*((y.p-x.p)+y.u*w-x.u*t):=by
 obtain⟨q,h1,h2⟩:=h;obtain⟨g1,e1,hg1,he1,k1⟩:=Pos.gap hx.ok.nn h1;obtain⟨g2,e2,hg2,he2,k2⟩:=Pos.gap hy.ok.nn h2;obtain⟨m,hm⟩:=hMi;obtain⟨n,hn⟩:=hLi;obtain⟨i1,hi1⟩:=hx.m;obtain⟨i2,hi2⟩:=hy.m;obtain⟨j1,hj1⟩:=hx.l;obtain⟨j2,hj2⟩:=hy.l;have hdi:(y.p-x.p)*M=((i2-i1:Int):Rat):=by rw [Rat.intCast_sub];grind
 have hQi:=nrm_int hm hn hdi hj1 hj2;have hMM:1≤M*M:=by have:=yfq (a:=1) (b:=M) (by grind) hM;grind
 have hLL:1≤L*L:=by have:=yfq (a:=1) (b:=L) (by grind) hL;grind
 have hBB:1≤B*B:=by have:=yfq (a:=1) (b:=B) (by grind) hB;grind
 have hM4:1≤M*M*(M*M):=by have:=yfq (a:=1) (b:=M*M) (by grind) hMM;grind
 have hQ:1≤M*M*(M*M)*(L*L):=by
  have:=yaq hM4 (show 0≤L*L by grind)
  grind
 have hB3:1≤B*B*B:=by
  have:=yaq hBB (show 0≤B by grind)
  grind
 have hLQ:L≤M*M*(M*M)*(L*L):=by
  have z1:=yaq hL (show 0≤L by grind)
  have z2:=yaq hM4 (show 0≤L*L by grind)
  grind
 generalize hQ0:M*M*(M*M)*(L*L)=Q at *
 have hdb : -(2*B)≤y.p-x.p∧y.p-x.p≤2*B:=by
  have:=hx.lo;have:=hx.hi;have:=hy.lo;have:=hy.hi;grind
 have hxr:=hx.rt;have hyr:=hy.rt;have hxn:=hx.ok.nn;have hyn:=hy.ok.nn;have hu:=x.u_or;have hv:=y.u_or
 -- how near
 have hden:0<120*(B*B*B)*Q:=by
  have:=yal (a:=B*B*B) (b:=Q) (by grind) (by grind);grind
 obtain⟨e3,he3,he31,he3m⟩:=ycq (d:=1) (m:=120*(B*B*B)*Q) (by grind) hden;obtain⟨e4,he4,h41,h42⟩:=ybQ he1 he2;obtain⟨e5,he5,h51,h52⟩:=ybQ he3 he4;refine ⟨e5,he5,fun e t w he hle ht hw=>?_⟩;have p1:=k1 e t he (by grind) ht;have p2:=k2 e w he (by grind) hw;have t1:=ht.nn;have t2:=ht.le;have t3:=ht.lt;have w1:=hw.nn;have w2:=hw.le;have w3:=hw.lt;have tB:t≤B:=ycv (by grind) (by grind);have wB:w≤B:=ycv (by grind) (by grind);have hle3:e≤e3:=by grind
 have he1':e≤1:=by grind
 have heQ:e*(120*(B*B*B)*Q)≤1:=by
  have:=yaq hle3 (Rat.le_of_lt hden);grind
 have dpos:0<(y.p-x.p)+y.u*w-x.u*t:=by
  clear hQ0 hQi hdi;have:q-x.p + -x.u*t+(y.p-q+y.u*w)=(y.p-x.p)+y.u*w-x.u*t:=by grind
  grind
 -- what the squares lack
 have r1:x.r-t*t≤e*(3*B):=by
  have:=yaq (a:=2*t+e) (b:=3*B) (c:=e) (by grind) (by grind);grind
 have s1:y.r-w*w≤e*(3*B):=by
  have:=yaq (a:=2*w+e) (b:=3*B) (c:=e) (by grind) (by grind);grind
 have t0:=ycD t;have w0:=ycD w;have hub : -B≤x.u*t∧x.u*t≤B:=by rcases hu with e|e<;>rw [e]<;>constructor<;>grind
 have hvb : -B≤y.u*w∧y.u*w≤B:=by rcases hv with e|e<;>rw [e]<;>constructor<;>grind
 have hmul:=nrm_mul (y.p-x.p) t w x.u y.u hu hv;have hnear:=nrm_near (r:=x.r) (s:=y.r) (a:=t*t) (b:=w*w) hB hdb (by grind) (by grind);have hBB0:0≤B*B:=by grind
 by_cases hz:nrm (y.p-x.p) x.r y.r=0
 ·have hz2 : ((y.p - x.p) * (y.p - x.p) + y.r - x.r) * ((y.p - x.p) * (y.p - x.p) + y.r - x.r) = (2 * (y.p - x.p)) * (2 * (y.p - x.p)) * y.r := by
   unfold nrm at hz;grind
  by_cases hd0:y.p-x.p=0
  ·have hrs : y.r = x.r := by
    rw [hd0] at hz2;have:=ybB (a:=y.r-x.r) (by grind);grind
   by_cases hr0:x.r=0
   ·exfalso
    rw [hr0] at ht;rw [hrs,hr0] at hw;rw [ht.zero,hw.zero] at dpos;grind
   have hne:¬ x.u=y.u:=fun e=>by
    have hxy:=Qn.eq_of hx.ok hy.ok (by grind) hrs.symm (fun _=>e);subst hxy;exact Lt.irrefl hxn ⟨q,h1,h2⟩
   have hwt:y.u*w-x.u*t=w+t:=by
    rcases hu with e|e<;>rcases hv with f|f
    ·exact absurd (e.trans f.symm) hne
    ·rw [e,f] at dpos;grind
    ·rw [e,f];grind
    exact absurd (e.trans f.symm) hne
   have hrL:1≤x.r*L:=by
    rcases int_far hj1 (fun e=>by
     rcases Rat.mul_eq_zero.1 e with e|e
     ·exact hr0 e
     grind) with h|h
    ·exact h
    exfalso;have:=yas hxn (show 0≤L by grind)
    grind
   have b1:x.r≤(t+e)*(2*B):=by
    have:=yaq (a:=t+e) (b:=2*B) (c:=t+e) (by grind) (by grind);grind
   have b2:=yaq b1 (show 0≤L by grind)
   have hBL:B*L≤B*B*B*Q:=by
    have z1:=yaq hLQ (show 0≤B by grind)
    have z2:=yaq hBB (show 0≤B by grind)
    have z3:=yaq z2 (show 0≤Q by grind)
    grind
   have b3:=yaq hBL (Rat.le_of_lt he);have b4:=yaq hBL t1;have b5:0≤B*B*B*Q*w:=yas (by grind) w1;have:(y.p-x.p)+y.u*w-x.u*t=w+t:=by grind
   rw [this];grind
  exfalso;by_cases hs0:y.r=0
  ·rw [hs0] at hz2
   have h3:=ybB (a:=(y.p-x.p)*(y.p-x.p)+0-x.r) (by grind);by_cases hr0:x.r=0
   ·rw [hr0] at h3
    exact hd0 (ybB (by grind))
   exact hx.ok.sq hr0 (y.p-x.p) (by grind)
  exact hy.ok.sq hs0 _ (yfW hz2 (by grind))
 have hzQ:nrm (y.p-x.p) x.r y.r*Q≠0:=fun e=>by
  rcases Rat.mul_eq_zero.1 e with e|e
  ·exact hz e
  grind
 have hfar:=int_far hQi hzQ;clear hQi hzQ hz k1 k2 h1 h2 hxn hyn he3m hden;generalize nrm (y.p-x.p) x.r y.r=Z at *;generalize nrm (y.p-x.p) (t*t) (w*w)=Zt at *;generalize hut:x.u*t=ut at *;generalize hvw:y.u*w=vw at *;generalize y.p-x.p=d at *
 -- the other three factors
 have c1:=yiE (a:=d-vw-ut) (b:=d-vw+ut) (A:=4*B) (C:=4*B) (by constructor<;>grind) (by constructor<;>grind);have c2:=yiE (a:=d+vw+ut) (b:=(d-vw-ut)*(d-vw+ut)) (A:=4*B) (C:=4*B*(4*B)) (by constructor<;>grind) c1;generalize (d+vw+ut)*((d-vw-ut)*(d-vw+ut))=c at *;clear c1;have c2' : -(64*(B*B*B))≤c∧c≤64*(B*B*B):=by constructor<;>grind
 clear c2
 -- how far the two norms are from one another
 have f1:10*(B*B)*((x.r-t*t)+(y.r-w*w))≤60*(B*B*B)*e:=by
  have:=yaq (a:=(x.r-t*t)+(y.r-w*w)) (b:=e*(6*B)) (c:=B*B) (by grind) hBB0;grind
 have f2:Z-Zt≤60*(B*B*B)*e ∧ -(60*(B*B*B)*e)≤Z-Zt:=by constructor<;>grind
 have hQ0:0≤Q:=by grind
 have f3:=yaq f2.1 hQ0;have f4:=yaq f2.2 hQ0;have f5:60*(B*B*B)*e*Q≤1 / 2:=by grind
 have dQ:0≤(d+vw-ut)*Q:=yas (Rat.le_of_lt dpos) hQ0;generalize hdQ:(d+vw-ut)*Q=D at *;have hz:Zt*Q=D*c:=by grind
 have g1:=yas (a:=64*(B*B*B)-c) (b:=D) (by grind) dQ;have g2:=yas (a:=64*(B*B*B)+c) (b:=D) (by grind) dQ;have:128*(B*B*B)*Q*(d+vw-ut)=128*(B*B*B)*D:=by rw [← hdQ];grind
 rw [this];rcases hfar with h|h<;>grind
theorem sep_num {M L B N:Rat} {x y:Qn} (hM:1≤M) (hL:1≤L) (hB:1≤B) (hMi:∃ m:Int,M=m) (hLi:∃ n:Int,L=n) (hx:Ht M L B x) (hy:Ht M L B y) (h:Lt x y)
  (hN:512*(B*B*B)*(M*M*(M*M)*(L*L))≤N) (hN1:1≤N):∃ m:Int,Above1 (m / N) x∧Below1 (m / N) y ∧ -(2*B)*N≤m∧(m:Rat)≤2*B*N:=by
 obtain⟨e0,he0,k⟩:=sep_core hM hL hB hMi hLi hx hy h;obtain⟨e1,he1,h11,h12⟩:=ycq (d:=1) (m:=N) (by grind) (by grind);obtain⟨e,he,h21,h22⟩:=ybQ he0 he1;obtain⟨t,ht⟩:=ybO hx.ok.nn he;obtain⟨w,hw⟩:=ybO hy.ok.nn he;have k1:=k e t w he h21 ht hw
 have heN:e*N≤1:=by
  have:=yaq h22 (show 0≤N by grind)
  grind
 have hu:=x.u_or;have hv:=y.u_or;have tB:t≤B:=ycv (by grind) (by have:=ht.le;have:=hx.rt;grind);have wB:w≤B:=ycv (by grind) (by have:=hw.le;have:=hy.rt;grind);have t1:=ht.nn;have w1:=hw.nn;have xl:=hx.lo;have xh:=hx.hi;have yl:=hy.lo;have yh:=hy.hi;have hXl : -(2*B)≤x.p+x.u*t:=by rcases hu with f|f<;>rw [f]<;>grind
 have hYh:y.p+y.u*w≤2*B:=by rcases hv with f|f<;>rw [f]<;>grind
 have hpos:0<y.p-x.p+y.u*w-x.u*t:=by
  by_cases hp:0<y.p-x.p+y.u*w-x.u*t
  ·exact hp
  exfalso;have hBB:1≤B*B:=by have:=yfq (a:=1) (b:=B) (by grind) hB;grind
  have hB3:0≤B*B*B:=yas (by grind) (by grind);have hQ:=yas (ycD (M*M)) (ycD L)
  have:=yas (a:=128*(B*B*B)*(M*M*(M*M)*(L*L))) (b:=-(y.p-x.p+y.u*w-x.u*t)) (by
   have:=yas hB3 hQ
   grind) (by grind)
  grind
 have k2:4≤N*(y.p-x.p+y.u*w-x.u*t):=by
  have:=yaq hN (Rat.le_of_lt hpos);grind
 clear k k1 hN hpos;have c1:=@Rat.le_ceil (N*(x.p+x.u*t+e));have c2:((N*(x.p+x.u*t+e)).ceil:Rat)<N*(x.p+x.u*t+e)+1:=Rat.ceil_lt;generalize (N*(x.p+x.u*t+e)).ceil=m at *;have hm:(m:Rat) / N*N=m:=Rat.div_mul_cancel (by grind);obtain⟨q,hq⟩:∃ q,(m:Rat) / N=q:=⟨_,rfl⟩;rw [hq] at hm
 have cancel:∀ a b:Rat,N*a≤N*b→a≤b:=fun a b hab=>by
  by_cases hc:a≤b
  ·exact hc
  exfalso;have:=yal (a:=N) (b:=a-b) (by grind) (by grind);grind
 have q1:e≤q-(x.p+x.u*t):=cancel _ _ (by grind);have q2:e≤y.p+y.u*w-q:=cancel _ _ (by grind);refine ⟨m,?_,?_,?_,?_⟩
 ·have:=ycU hx.ok.nn hu ht he q1
  unfold Above1;have e1:q-(x.p+x.u*t)+x.u*t=q-x.p:=by grind
  rw [e1] at this;rw [hq];exact this
 ·have:=ycU (w:=-y.u) hy.ok.nn (by rcases hv with f|f<;>rw [f]<;>simp) hw he q2
  unfold Below1;have e1:y.p+y.u*w-q + -y.u*w=y.p-q:=by grind
  rw [e1,Rat.neg_neg] at this;rw [hq];exact this
 ·have:=yaq (show -(2*B)≤q by grind) (show 0≤N by grind)
  grind
 have:=yaq (show q≤2*B by grind) (show 0≤N by grind)
 grind
end Go.Proofs.YtpgffjjpiafhpaaGreatDoor
