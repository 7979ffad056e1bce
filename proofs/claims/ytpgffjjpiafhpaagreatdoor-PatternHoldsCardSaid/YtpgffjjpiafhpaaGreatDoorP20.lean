/- Parts of a proof: Fa Fb Nw Kr. -/
import Derived.Deep.DeepCutAuto
import Derived.Deep.Cut
import Derived.Deep.CutRange
import Derived.Test.YtpgffjjpiafhpaaGreatDoorP19
import Derived.Test.YtpgffjjpiafhpaaGreatDoorP01
import Derived.Test.YtpgffjjpiafhpaaGreatDoorP06
import Derived.Test.YtpgffjjpiafhpaaGreatDoorP09
import Derived.Test.YtpgffjjpiafhpaaGreatDoorP11
set_option linter.unusedVariables false
set_option linter.unusedSimpArgs false
set_option linter.unusedSectionVars false
set_option maxRecDepth 100000
set_option maxHeartbeats 8000000
namespace Go.Proofs.YtpgffjjpiafhpaaGreatDoor
open Go.RowKit
section
open Classical
theorem mvQ_le {x:Qn} (hx:0≤x.r) {q:Rat} (h0:0≤q) (h:Lt (mvQ x q) x):False:=by
 obtain⟨r,h1,h2⟩:=h;have h3:Above1 r x:=Pos.mono hx h1 (by show r-(x.p+q)≤r-x.p;grind)
 have:=ycF hx h2 h3;grind
theorem mvQ_mono {x:Qn} (hx:0≤x.r) {a b:Rat} (hab:a≤b) (h:Lt (mvQ x b) (mvQ x a)):False:=by
 refine mvQ_le (x:=mvQ x a) (q:=b-a) hx (by grind) ?_
 have e:mvQ (mvQ x a) (b-a)=mvQ x b:=by
  unfold mvQ;have:x.p+a+(b-a)=x.p+b:=by grind
  dsimp only;rw [this]
 rw [e];exact h
noncomputable def mvB (q:Rat) (b:Bd K):Bd K:=⟨mvK q b.pt,b.beh⟩
noncomputable def eroI (q:Rat) (i:Iv K):Iv K:=⟨i.f,mvB (-q) i.l⟩
noncomputable def okI (i:Iv K):Bool:=decide (i.f<i.l)
noncomputable def eroL (q:Rat) (l:List (Iv K)):List (Iv K):=(l.map (eroI q)).filter okI
noncomputable def eroK (q:Rat) (l:List (Iv K)):List (Iv K):=normK (eroL q l)
noncomputable def swpI (a b:Rat) (i:Iv K):Iv K:=⟨mvB a i.f,mvB b i.l⟩
noncomputable def swpL (a b:Rat) (l:List (Iv K)):List (Iv K):=l.map (swpI a b)
noncomputable def swpK (a b:Rat) (l:List (Iv K)):List (Iv K):=normK (swpL a b l)
theorem ygm {i:Iv K}:okI i=true↔i.f<i.l:=by unfold okI;rw [decide_eq_true_iff]
theorem yhe {q:Rat} {l:List (Iv K)}:∀ i∈eroL q l,i.f<i.l:=fun i hi=>ygm.1 (List.mem_filter.1 hi).2
theorem ygB {q:Rat} {l:List (Iv K)} {i:Iv K}:i∈eroL q l↔(∃ j∈l,eroI q j=i)∧i.f<i.l:=by
 unfold eroL;rw [List.mem_filter,List.mem_map,ygm]
theorem mvK_add {k:Nat} {x:K} {a b:Rat} (h:Sm k x) (hk:k≤900) (ha:FitQ 24 a) (hb:FitQ 24 b) (hab:FitQ 24 (a+b)):mvK b (mvK a x)=mvK (a+b) x:=by
 refine Subtype.ext ?_;rw [ybA (yeq h (by omega) ha) (by omega) hb,ybA h (by omega) ha,ybA h (by omega) hab];unfold mvQ;have e:x.1.p+a+b=x.1.p+(a+b):=by grind
 dsimp only;rw [e]
theorem Sm.mono {k m:Nat} {x:K} (h:Sm k x) (hk:k≤m):Sm m x:=⟨h.1.mono hk,h.2.mono hk⟩
theorem SmI.mono {k m:Nat} {i:Iv K} (h:SmI k i) (hk:k≤m):SmI m i:=⟨h.1.mono hk,h.2.mono hk⟩
theorem eroI_sm {k:Nat} {i:Iv K} {q:Rat} (h:SmI k i) (hk:k≤900) (hq:FitQ 24 q):SmI (k+25) (eroI q i):=⟨h.1.mono (by omega),yeq h.2 (by omega) hq.neg⟩
theorem swpI_sm {k:Nat} {i:Iv K} {a b:Rat} (h:SmI k i) (hk:k≤900) (ha:FitQ 24 a) (hb:FitQ 24 b):SmI (k+25) (swpI a b i):=⟨yeq h.1 (by omega) ha,yeq h.2 (by omega) hb⟩
theorem eroL_sm {k:Nat} {l:List (Iv K)} {q:Rat} (h:∀ i∈l,SmI k i) (hk:k≤900) (hq:FitQ 24 q):∀ i∈eroL q l,SmI (k+25) i:=fun i hi=>by
 obtain⟨⟨j,hj,rfl⟩,_⟩:=ygB.1 hi;exact eroI_sm (h j hj) hk hq
theorem swpL_sm {k:Nat} {l:List (Iv K)} {a b:Rat} (h:∀ i∈l,SmI k i) (hk:k≤900) (ha:FitQ 24 a) (hb:FitQ 24 b):∀ i∈swpL a b l,SmI (k+25) i:=fun i hi=>by
 obtain⟨j,hj,rfl⟩:=List.mem_map.1 hi;exact swpI_sm (h j hj) hk ha hb
theorem yeV {k:Nat} {op:Int} {a b:List (Iv K)} (ha:∀ i∈a,SmI k i) (hb:∀ i∈b,SmI k i):∀ i∈combK op a b,SmI k i:=fun i hi=>by
 have hp:=ycJ (op:=op) (PtsIn.self (a++b) |>.sub fun i hi=>List.mem_append_left _ hi) (PtsIn.self (a++b) |>.sub fun i hi=>List.mem_append_right _ hi) i hi
 have hs:∀ x∈ptsL (a++b),Sm k x:=fun x hx=>by
  obtain⟨j,hj,h⟩:=ybU.1 hx
  have hj:SmI k j:=by
   rcases List.mem_append.1 hj with hj|hj
   ·exact ha j hj
   exact hb j hj
  rcases h with rfl|rfl
  ·exact hj.1
  exact hj.2
 exact ⟨hs _ hp.1,hs _ hp.2⟩
theorem ydB {k:Nat} {a:List (Iv K)} (ha:∀ i∈a,SmI k i):∀ i∈normK a,SmI k i:=yeV ha (by simp)
section
variable {k:Nat} {q:Rat} (hk:k≤900) (hq:FitQ 24 q)
include hk hq
end
theorem yhn {k:Nat} {a b g:Rat} (hk:k≤800) (ha:FitQ 24 a) (hb:FitQ 24 b) (hg:FitQ 24 g) (ga:FitQ 24 (g+a)) (gb:FitQ 24 (g+b)) {l:List (Iv K)} (h:∀ i∈l,SmI k i):swpL a b (l.map (mvI g))=swpL (g+a) (g+b) l:=by
 unfold swpL;rw [List.map_map];refine List.map_congr_left fun i hi=>?_;have hi:=h i hi;unfold Function.comp swpI mvI mvB;dsimp only;rw [mvK_add hi.1 (by omega) hg ha ga,mvK_add hi.2 (by omega) hg hb gb]
theorem SubL.refl (a:List (Iv K)):SubL a a:=fun _ h=>h
section
variable {k:Nat} (hk:k≤800)
include hk
end
end
section
open Classical
structure St where
 d:List (Iv K)
 g:Rat
 a:Rat
 b:Rat
noncomputable def rchS (s:Nat→St):Nat→List (Iv K)
 | 0=>eroK (s 0).g (s 0).d
 | i+1=>combK 2 (eroK (s (i+1)).g (s (i+1)).d) (swpK (s (i+1)).a (s (i+1)).b ((rchS s i).map (mvI (s i).g)))
noncomputable def rchD (s:Nat→St):Nat→List (Iv K)
 | 0=>eroK (s 0).g (s 0).d
 | i+1=>combK 2 (eroK (s (i+1)).g (s (i+1)).d) (swpK ((s i).g+(s (i+1)).a) ((s i).g+(s (i+1)).b) (rchD s i))
noncomputable def livS (s:Nat→St) (n:Nat):Nat→List (Iv K)
 | 0=>rchS s (n-1)
 | j+1=>combK 2 (rchS s (n-2-j)) (swpK (-((s (n-2-j+1)).b+(s (n-2-j)).g)) (-((s (n-2-j+1)).a+(s (n-2-j)).g)) (livS s n j))
structure StOk (s:Nat→St):Prop where
 norm:∀ i,Norm (s i).d
 pts:∀ i,∃ S:List K,S.length≤16∧(∀ x∈S,Sm 28 x)∧PtsIn S (s i).d
 g:∀ i,FitQ 8 (s i).g
 a:∀ i,FitQ 8 (s i).a
 b:∀ i,FitQ 8 (s i).b
theorem yej {a b:Rat} (h:FitQ 8 a) (k:FitQ 8 b):FitQ 24 (a+b):=(FitQ.add h k).mono (by omega)
theorem ycG {a:Rat} (h:FitQ 8 a):FitQ 24 a:=h.mono (by omega)
theorem StOk.sm {s:Nat→St} (h:StOk s) (i:Nat):∀ j∈(s i).d,SmI 28 j:=fun j hj=>by
 obtain⟨S,_,h1,h2⟩:=h.pts i;exact ⟨h1 _ (h2 j hj).1,h1 _ (h2 j hj).2⟩
theorem rch_norm {s:Nat→St}:∀ i,Norm (rchS s i)
 | 0=>yaq _ _ _
 | _+1=>yaq _ _ _
theorem ygU {s:Nat→St} {n:Nat}:∀ j,Norm (livS s n j)
 | 0=>rch_norm _
 | _+1=>yaq _ _ _
section
variable {s:Nat→St} (h:StOk s)
include h
theorem rch_sm:∀ i,i≤4→∀ j∈rchS s i,SmI (53+50*i) j
 | 0,_=>ydB (eroL_sm (h.sm 0) (by omega) (ycG (h.g 0)))
 | i+1,hi=>by
  refine yeV (fun j hj=>(ydB (eroL_sm (h.sm (i+1)) (by omega) (ycG (h.g (i+1)))) j hj).mono (by omega)) (ydB fun j hj=>?_)
  have:=swpL_sm (k:=53+50*i+25) (l:=(rchS s i).map (mvI (s i).g)) (fun j hj=>by
   obtain⟨j',hj',rfl⟩:=List.mem_map.1 hj
   exact mvI_sm (rch_sm i (by omega) j' hj') (by omega) (ycG (h.g i))) (by omega) (ycG (h.a (i+1))) (ycG (h.b (i+1))) j hj
  exact this.mono (by omega)
theorem rchD_eq:∀ i,i≤4→rchD s i=rchS s i
 | 0,_=>rfl
 | i+1,hi=>by
  unfold rchD rchS swpK;rw [rchD_eq i (by omega),yhn (k:=53+50*i) (by omega) (ycG (h.a (i+1))) (ycG (h.b (i+1))) (ycG (h.g i)) (yej (h.g i) (h.a (i+1))) (yej (h.g i) (h.b (i+1))) (rch_sm h i (by omega))]
theorem yfL {n:Nat} (hn:n≤4):∀ j,j≤4→∀ x∈livS s n j,SmI (253+25*j) x
 | 0,_=>fun x hx=>(rch_sm h (n-1) (by omega) x hx).mono (by omega)
 | j+1,hj=>by
  refine yeV (fun x hx=>(rch_sm h (n-2-j) (by omega) x hx).mono (by omega)) (ydB fun x hx=>?_);have:=swpL_sm (k:=253+25*j) (yfL hn j (by omega)) (by omega) (yej (h.b (n-2-j+1)) (h.g (n-2-j))).neg (yej (h.a (n-2-j+1)) (h.g (n-2-j))).neg x hx;exact this.mono (by omega)
end
theorem ero_pts {S:List K} {q:Rat} {l:List (Iv K)} (h:PtsIn S l):PtsIn (S++S.map (mvK (-q))) (eroL q l):=fun i hi=>by
 obtain⟨⟨j,hj,rfl⟩,_⟩:=ygB.1 hi;exact ⟨List.mem_append_left _ (h j hj).1,List.mem_append_right _ (List.mem_map_of_mem (h j hj).2)⟩
theorem swp_pts {S:List K} {a b:Rat} {l:List (Iv K)} (h:PtsIn S l):PtsIn (S.map (mvK a)++S.map (mvK b)) (swpL a b l):=fun i hi=>by
 obtain⟨j,hj,rfl⟩:=List.mem_map.1 hi;exact ⟨List.mem_append_left _ (List.mem_map_of_mem (h j hj).1),List.mem_append_right _ (List.mem_map_of_mem (h j hj).2)⟩
theorem mv_pts {S:List K} {q:Rat} {l:List (Iv K)} (h:PtsIn S l):PtsIn (S.map (mvK q)) (l.map (mvI q)):=fun i hi=>by
 obtain⟨j,hj,rfl⟩:=List.mem_map.1 hi;exact ⟨List.mem_map_of_mem (h j hj).1,List.mem_map_of_mem (h j hj).2⟩
def Few (n:Nat) (l:List (Iv K)):Prop:=∃ S:List K,S.length≤n∧PtsIn S l
theorem Few.mono {n m:Nat} {l:List (Iv K)} (h:Few n l) (hn:n≤m):Few m l:=by
 obtain⟨S,h1,h2⟩:=h;exact ⟨S,by omega,h2⟩
theorem Few.len {n:Nat} {l:List (Iv K)} (h:Few n l) (hl:Norm l):l.length≤2*n:=by
 obtain⟨S,h1,h2⟩:=h;have:=hl.len h2;omega
theorem Few.comb {n m:Nat} {op:Int} {a b:List (Iv K)} (h:Few n a) (k:Few m b):Few (n+m) (combK op a b):=by
 obtain⟨S,h1,h2⟩:=h;obtain⟨T,k1,k2⟩:=k;exact ⟨S++T,by rw [List.length_append];omega,ycJ (h2.mono fun x hx=>List.mem_append_left _ hx) (k2.mono fun x hx=>List.mem_append_right _ hx)⟩
theorem Few.norm {n:Nat} {a:List (Iv K)} (h:Few n a):Few n (normK a):=h.comb (m:=0) ⟨[],Nat.le_refl _,PtsIn.nil _⟩
theorem Few.ero {n:Nat} {q:Rat} {l:List (Iv K)} (h:Few n l):Few (2*n) (eroK q l):=by
 obtain⟨S,h1,h2⟩:=h;exact Few.norm ⟨_,by rw [List.length_append,List.length_map];omega,ero_pts h2⟩
theorem Few.swp {n:Nat} {a b:Rat} {l:List (Iv K)} (h:Few n l):Few (2*n) (swpK a b l):=by
 obtain⟨S,h1,h2⟩:=h;exact Few.norm ⟨_,by rw [List.length_append,List.length_map,List.length_map];omega,swp_pts h2⟩
theorem Few.mv {n:Nat} {q:Rat} {l:List (Iv K)} (h:Few n l):Few n (l.map (mvI q)):=by
 obtain⟨S,h1,h2⟩:=h;exact ⟨_,by rw [List.length_map];omega,mv_pts h2⟩
theorem StOk.few {s:Nat→St} (h:StOk s) (i:Nat):Few 16 (s i).d:=by
 obtain⟨S,h1,_,h2⟩:=h.pts i;exact ⟨S,h1,h2⟩
section
variable {s:Nat→St} (h:∀ i,Few 16 (s i).d)
include h
theorem rch_few:∀ i,i≤3→Few (64*2 ^ i-32) (rchS s i)
 | 0,_=>((h 0).ero).mono (by omega)
 | i+1,hi=>by
  refine ((h (i+1)).ero.comb ((rch_few i (by omega)).mv.swp)).mono ?_;have:i=0∨i=1∨i=2:=by omega
  rcases this with rfl|rfl|rfl<;>decide
theorem liv_few {n:Nat} (hn:1≤n) (h4:n≤4):∀ j,j<n→Few 4960 (livS s n j):=by
 have r0:=rch_few h 0 (by omega);have r1:=rch_few h 1 (by omega);have r2:=rch_few h 2 (by omega);have r3:=rch_few h 3 (by omega);intro j hj;have:n=1∨n=2∨n=3∨n=4:=by omega
 rcases this with rfl|rfl|rfl|rfl
 ·have:j=0:=by omega
  subst this;exact Few.mono r0 (by decide)
 ·have l0:Few 96 (livS s 2 0):=Few.mono r1 (by decide)
  have l1:Few (32+2*96) (livS s 2 1):=(Few.mono r0 (by decide)).comb l0.swp;have:j=0∨j=1:=by omega
  rcases this with rfl|rfl
  ·exact l0.mono (by decide)
  exact l1.mono (by decide)
 ·have l0:Few 224 (livS s 3 0):=Few.mono r2 (by decide)
  have l1:Few (96+2*224) (livS s 3 1):=(Few.mono r1 (by decide)).comb l0.swp;have l2:Few (32+2*(96+2*224)) (livS s 3 2):=(Few.mono r0 (by decide)).comb l1.swp;have:j=0∨j=1∨j=2:=by omega
  rcases this with rfl|rfl|rfl
  ·exact l0.mono (by decide)
  ·exact l1.mono (by decide)
  exact l2.mono (by decide)
 have l0:Few 480 (livS s 4 0):=Few.mono r3 (by decide);have l1:Few (224+2*480) (livS s 4 1):=(Few.mono r2 (by decide)).comb l0.swp;have l2:Few (96+2*(224+2*480)) (livS s 4 2):=(Few.mono r1 (by decide)).comb l1.swp;have l3:Few (32+2*(96+2*(224+2*480))) (livS s 4 3):=(Few.mono r0 (by decide)).comb l2.swp;have:j=0∨j=1∨j=2∨j=3:=by omega
 rcases this with rfl|rfl|rfl|rfl
 ·exact l0.mono (by decide)
 ·exact l1.mono (by decide)
 ·exact l2.mono (by decide)
 exact l3.mono (by decide)
end
section
variable {s:Nat→St} (h:∀ i,Few 16 (s i).d)
include h
theorem yha {n:Nat} (h4:n≤4):∀ j,j+1<n→Few 2464 (livS s n j):=by
 have r1:=rch_few h 1 (by omega);have r2:=rch_few h 2 (by omega);have r3:=rch_few h 3 (by omega);intro j hj;have:n=2∨n=3∨n=4:=by omega
 rcases this with rfl|rfl|rfl
 ·have:j=0:=by omega
  subst this;exact Few.mono r1 (by decide)
 ·have l0:Few 224 (livS s 3 0):=Few.mono r2 (by decide)
  have l1:Few (96+2*224) (livS s 3 1):=(Few.mono r1 (by decide)).comb l0.swp;have:j=0∨j=1:=by omega
  rcases this with rfl|rfl
  ·exact l0.mono (by decide)
  exact l1.mono (by decide)
 have l0:Few 480 (livS s 4 0):=Few.mono r3 (by decide);have l1:Few (224+2*480) (livS s 4 1):=(Few.mono r2 (by decide)).comb l0.swp;have l2:Few (96+2*(224+2*480)) (livS s 4 2):=(Few.mono r1 (by decide)).comb l1.swp;have:j=0∨j=1∨j=2:=by omega
 rcases this with rfl|rfl|rfl
 ·exact l0.mono (by decide)
 ·exact l1.mono (by decide)
 exact l2.mono (by decide)
end
section
variable {s t:Nat→St} (h:StOk s) {q:Rat} (hq:FitQ 24 q)
 (hd:∀ i,(t i).d=(s i).d.map (mvI q)) (hg:∀ i,(t i).g=(s i).g) (ha:∀ i,(t i).a=(s i).a) (hb:∀ i,(t i).b=(s i).b)
include h hq hd hg ha hb
end
section
variable {s t:Nat→St} (h:StOk s) (k:StOk t)
 (hd:∀ i,SubL (t i).d (s i).d) (hg:∀ i,(t i).g=(s i).g) (ha:∀ i,(t i).a=(s i).a) (hb:∀ i,(t i).b=(s i).b)
include h k hd hg ha hb
end
structure PartA where
 a:Nat
 b:Nat
 ha:a<256
 hb:b<256
structure EvA where
 ps:List PartA
 o:Nat
 g:Nat
 w:Nat
 r:Nat
 ho:o<256
 hg:g<256
 hw:w<256
 hr:r<256
end
theorem gm_am (x k s:Nat) (h:k+x≤2*s):k*x≤s*s:=by
 rcases Nat.le_total x s with hx|hx
 ·obtain⟨t,rfl⟩:=Nat.le.dest hx
  have hk:k≤x+t+t:=by omega
  have h1:k*x≤(x+t+t)*x:=Nat.mul_le_mul_right _ hk;have h2:(x+t)*(x+t)=(x+t+t)*x+t*t:=by grind
  omega
 obtain⟨t,rfl⟩:=Nat.le.dest hx;by_cases hts:t≤s
 ·obtain⟨u,rfl⟩:=Nat.le.dest hts
  have hk:k≤u:=by omega
  have h1:k*(t+u+t)≤u*(t+u+t):=Nat.mul_le_mul_right _ hk;have h2:(t+u)*(t+u)=u*(t+u+t)+t*t:=by grind
  omega
 have hk:k=0:=by omega
 subst hk;rw [Nat.zero_mul];exact Nat.zero_le _
theorem newton_ge {n x s:Nat} (hx:0<x) (hs:s*s≤n):s≤(x+n / x) / 2:=by
 rw [Nat.le_div_iff_mul_le (by decide)];refine Nat.le_of_not_lt fun h=>?_
 have h1:n<(n / x+1)*x:=by
  have:=Nat.div_add_mod n x;have h2:=Nat.mod_lt n hx;have h3:(n / x+1)*x=x*(n / x)+x:=by grind
  omega
 have h2:=gm_am x (n / x+1) s (by omega);omega
theorem newton_lt {n x s:Nat} (hs:n<(s+1)*(s+1)) (hx:s<x):(x+n / x) / 2<x:=by
 have hx0:0<x:=by omega
 have h1:(s+1)*(s+1)≤x*x:=Nat.mul_le_mul hx hx
 have h2:n / x<x:=by
  rw [Nat.div_lt_iff_lt_mul hx0];omega
 omega
theorem ygo (n:Nat):∃ s,s*s≤n∧n<(s+1)*(s+1):=by
 induction n with
 | zero=>exact ⟨0,by decide,by decide⟩
 | succ n ih =>
  obtain⟨s,h1,h2⟩:=ih;by_cases h:n+1<(s+1)*(s+1)
  ·exact ⟨s,by omega,h⟩
  refine ⟨s+1,by omega,?_⟩;have:(s+1+1)*(s+1+1)=(s+1)*(s+1)+2*s+3:=by grind
  omega
noncomputable def isq (n:Nat):Nat:=(ygo n).choose
theorem yex (n:Nat):isq n*isq n≤n:=(ygo n).choose_spec.1
theorem yfN (n:Nat):n<(isq n+1)*(isq n+1):=(ygo n).choose_spec.2
theorem yhm {n s:Nat} (h1:s*s≤n) (h2:n<(s+1)*(s+1)):s=isq n:=by
 have a1:=yex n;have a2:=yfN n;refine Nat.le_antisymm (Nat.le_of_not_lt fun h=>?_) (Nat.le_of_not_lt fun h=>?_)
 ·have:=Nat.mul_le_mul h h
  simp only [Nat.succ_eq_add_one] at this;omega
 have:=Nat.mul_le_mul h h;simp only [Nat.succ_eq_add_one] at this;omega
theorem yfZ {n x:Nat} (hx:isq n≤x) (hx0:0<x):isq n≤(x+n / x) / 2∧((x+n / x) / 2<x∨x=isq n):=by
 refine ⟨newton_ge hx0 (yex n),?_⟩;rcases Nat.eq_or_lt_of_le hx with h|h
 ·exact .inr h.symm
 exact .inl (newton_lt (yfN n) h)
theorem isq_pos {n:Nat} (h:0<n):0<isq n:=Nat.pos_of_ne_zero fun h0=>by
 have:=yfN n;rw [h0] at this;omega
theorem isq_pow {n b m:Nat} (hb:n<2 ^ b) (hm:b≤2*m):isq n<2 ^ m:=Nat.lt_of_not_le fun h=>by
 have h1:=Nat.mul_le_mul h h;have h2:=yex n;have h3:2 ^ m*2 ^ m=2 ^ (m+m):=(Nat.pow_add 2 m m).symm;have h4:2 ^ b≤2 ^ (m+m):=Nat.pow_le_pow_right (by decide) (by omega);omega
theorem ydD (n:Nat):isq n≤n:=by
 have h:=yex n;rcases Nat.eq_zero_or_pos (isq n) with h0|h0
 ·omega
 exact Nat.le_trans (Nat.le_mul_of_pos_left _ h0) h
section
open Go.RowKit Go.Lib
theorem conv1 {u:World} {g pb:Nat} (h:u.heap[g]? = some (.cells #[.int .u8 (pb:Int)] 5)):(convert 211 9 (.slice (some ⟨g,0,none⟩) 1 1)).run Tryz.prog u = .ok (.string (strOfNums [(pb:Int)])) u :=
 run_convert_bytes_arg (P:=Tryz.prog) u 211 5 Tryz.underlying211 Tryz.underlying5 g 0 1 1 [(pb:Int)] rfl (fun i hi=>by
  obtain rfl:i=0:=by omega
  rw [yac h]
  rfl) 9 Tryz.underlying9
def strOf:Value→ByteArray
 | .string s=>s
 | _=>⟨#[]⟩
theorem mag_le {X M c r:Nat} (hX:X≤2 ^ M) (hM:M=r+8*c) (hr:r<8):(magS X).size≤c+1:=by
 rw [yaI];subst hM;have h1:2 ^ r<2 ^ 8:=Nat.pow_lt_pow_right (by decide) hr;have h2:2 ^ (r+8*c)=2 ^ r*256 ^ c:=by rw [Nat.pow_add,show (256:Nat)=2 ^ 8 from rfl,← Nat.pow_mul]
 have h3:256 ^ (c+1)=256*256 ^ c:=by rw [Nat.pow_succ,Nat.mul_comm]
 have h4:2 ^ r*256 ^ c<256*256 ^ c:=Nat.mul_lt_mul_of_pos_right h1 (Nat.pow_pos (by decide));omega
theorem ycN {X Y k:Nat} (h:X≤Y) (hY:(magS Y).size≤k):(magS X).size≤k:=(yaI _ _).2 (Nat.lt_of_le_of_lt h ((yaI _ _).1 hY))
theorem mag_sum {X Y k:Nat} (hX:(magS X).size≤k) (hY:(magS Y).size≤k):(magS (X+Y)).size≤k+1:=by
 rw [yaI] at *;have:256 ^ (k+1)=256*256 ^ k:=by rw [Nat.pow_succ,Nat.mul_comm]
 omega
theorem wrap_pow:∀ r:Fin 8,IntKind.u8.wrap ((2:Int) ^ r.val)=((2 ^ r.val:Nat):Int):=by decide
theorem bit8:∀ n:Fin 256,n.val<2 ^ (Lib.bitLen n.val):=by decide +kernel
theorem bit8le:∀ n:Fin 256,Lib.bitLen n.val≤8:=by decide +kernel
theorem yfx (c:Nat):natL (repeatL [0] c)=0:=by
 induction c with
 | zero=>rfl
 | succ c ih =>
  show natL ([0]++repeatL [0] c)=0
  rw [ycw,ih];show natL [0]*_+0=0
  have:natL [0]=0:=rfl;rw [this,Nat.zero_mul]
theorem pow_bytes (r c:Nat) (hr:r<8):(⟨(#[UInt8.ofNat (2 ^ r)]++(repeatL [0] c).toArray)⟩:ByteArray)=magS (2 ^ (r+8*c)):=by
 have hl:(⟨(#[UInt8.ofNat (2 ^ r)]++(repeatL [0] c).toArray)⟩:ByteArray).data.toList=UInt8.ofNat (2 ^ r) :: repeatL [0] c:=by simp
 have hb:(UInt8.ofNat (2 ^ r)).toNat=2 ^ r:=by
  have:2 ^ r<2 ^ 8:=Nat.pow_lt_pow_right (by decide) hr;rw [UInt8.toNat_ofNat'];exact Nat.mod_eq_of_lt this
 have hc:CanS (⟨(#[UInt8.ofNat (2 ^ r)]++(repeatL [0] c).toArray)⟩:ByteArray):=by
  unfold CanS;rw [hl];intro b hb2;simp only [List.head?_cons,Option.some.injEq] at hb2;subst hb2;intro h0;have:=congrArg UInt8.toNat h0;rw [hb] at this;have h2:0<2 ^ r:=Nat.pow_pos (by decide);have h3:(0:UInt8).toNat=0:=rfl;omega
 rw [← ybD _ hc];congr 1
 unfold natB;rw [hl,ybr,hb,yfx,repeatL_length,Nat.add_zero];show 2 ^ r*256 ^ (c*1)=_
 rw [Nat.mul_one,Nat.pow_add,show (256:Nat)=2 ^ 8 from rfl,← Nat.pow_mul]
theorem pow_app (r c pb M:Nat) (hr:r<8) (hp:2 ^ r=pb) (hM:M=r+8*c):strOfNums [(pb:Int)]++⟨(repeatL [0] c).toArray⟩=magS (2 ^ M):=by
 subst hp hM;rw [← pow_bytes r c hr];apply ByteArray.ext;rw [ByteArray.data_append];unfold strOfNums;simp only [List.map_cons,List.map_nil,Int.toNat_natCast]
theorem top_lt (s:ByteArray) (h:0<s.size):natB s<2 ^ (8*(s.size-1)+Lib.bitLen (s[0]'h).toNat):=by
 obtain⟨⟨l⟩⟩:=s;cases l with
 | nil=>exact absurd h (by decide)
 | cons a l =>
  have e:natB ⟨⟨a :: l⟩⟩=a.toNat * 256 ^ l.length+natL l:=ybr a l;have h1:=ycg l;have h2:=bit8 ⟨a.toNat,UInt8.toNat_lt a⟩;have e2:((⟨⟨a :: l⟩⟩:ByteArray)[0]'h)=a:=rfl;have e3:(⟨⟨a :: l⟩⟩:ByteArray).size=l.length+1:=rfl;rw [e,e2,e3,Nat.add_sub_cancel,Nat.pow_add,Nat.pow_mul,show (2:Nat) ^ 8=256 from rfl]
  dsimp only at h2;have h3:(a.toNat + 1)*256 ^ l.length≤2 ^ Lib.bitLen a.toNat * 256 ^ l.length:=Nat.mul_le_mul_right _ h2;have h4:(a.toNat + 1)*256 ^ l.length=a.toNat * 256 ^ l.length+256 ^ l.length:=by rw [Nat.add_mul,Nat.one_mul]
  rw [Nat.mul_comm (256 ^ l.length)];omega
theorem yfh (w:World) (s:ByteArray) (h:0<s.size):(Instr.index 9 (.string s) (.int .i64 0)).run Tryz.prog w = .ok (.int .u8 ((s[0]'h).toNat:Nat)) w:=by
 rw [run_index_string (P:=Tryz.prog) w 9 s .i64 _ Tryz.underlying9,dif_pos ⟨by omega,by omega⟩];rfl
theorem root_p (n:Nat) (hs:(magS n).size≤1000000000) (w:World) :
  Calls Tryz.prog 193 #[.string (magS n)] w fun e w'=>e = .returned (.string (magS (isq n)))∧Below w.heap.size w w':=by
 rcases Nat.eq_zero_or_pos n with h0|hpos
 ·subst h0
  have hz:isq 0=0:=(yhm (s:=0) (by decide) (by decide)).symm;rw [hz,magS_zero];go_enter Tryz.func193,Tryz.ntmps193
  go_wp2_with fail;go_ret
  exact ⟨rfl,Below.refl _ _⟩
 have hsz:0<(magS n).size:=Nat.pos_of_ne_zero fun h=>by
  have:=(yaI n 0).1 (by omega);omega
 have htop:=top_lt (magS n) hsz;rw [yau] at htop;have hne:magS n≠⟨#[]⟩:=fun h=>by rw [h] at hsz;exact absurd hsz (by decide)
 have HD:Hid (∀ X:Nat,0<X→(magS X).size≤1000000001→∀ w,Calls Tryz.prog 187 #[.string (magS n),.string (magS X)] w fun e w'=>e = .returned (.tuple #[.string (magS (n / X)),.string (magS (n % X))])∧Keep [] w w'):=fun X hX hXs w=>by
  have:=div_c (magS n) (magS X) (by omega) (by omega) (ybC n) (ybC X) (by rw [yau];exact hX) w;rw [yau,yau] at this;exact this
 have HA:Hid (∀ X Y:Nat,(magS X).size≤1000000001→(magS Y).size≤1000000001→∀ w,Calls Tryz.prog 189 #[.string (magS X),.string (magS Y)] w fun e w'=>e = .returned (.string (magS (X+Y)))∧Keep [] w w'):=fun X Y hX hY w=>by
  have:=add_c (magS X) (magS Y) (by omega) (by omega) w;rw [yau,yau] at this;exact this
 have HH:Hid (∀ X:Nat,(magS X).size≤1000000002→∀ w,Calls Tryz.prog 187 #[.string (magS X),.string ⟨#[2]⟩] w fun e w'=>e = .returned (.tuple #[.string (magS (X / 2)),.string (magS (X % 2))])∧Keep [] w w'):=fun X hX w=>by
  have h2:natB ⟨#[2]⟩=2:=rfl;have c2:CanS ⟨#[2]⟩:=by intro b hb;have:(some 2:Option UInt8)=some b:=hb;injection this with this;subst this;decide
  have:=div_c (magS X) ⟨#[2]⟩ (by omega) (by decide) (ybC X) c2 (by rw [h2];decide) w;rw [yau,h2] at this;exact this
 have HC:Hid (∀ X Y:Nat,∀ w,Calls Tryz.prog 185 #[.string (magS X),.string (magS Y)] w fun e w'=>e = .returned (.int .i64 (Lib.compareInt X Y))∧Keep [] w w'):=fun X Y w=>by
  have:=ybI (magS X) (magS Y) (ybC X) (ybC Y) w;rw [yau,yau] at this;exact this
 obtain⟨d,hd⟩:∃ d,((magS n)[0]'hsz).toNat=d:=⟨_,rfl⟩;have hd9:d<256:=by rw [← hd];exact UInt8.toNat_lt _
 have hix:=fun w=>yfh w (magS n) hsz;rw [hd] at htop hix;have HB:=jX (fun w=>Tryz.bits_Len8 (d:Int) w (by omega) (by omega));have hbl:=bit8le ⟨d,hd9⟩;dsimp only at hbl;rw [Int.toNat_natCast] at HB;obtain⟨bl,hbl2⟩:∃ bl,Lib.bitLen d=bl:=⟨_,rfl⟩;rw [hbl2] at HB hbl htop;have HT:=jX htop;have Hpos:=jX hpos;clear htop hbl2 hd hpos;obtain⟨L,hL⟩:∃ L,(magS n).size=L+1:=⟨(magS n).size-1,by omega⟩;rw [hL,Nat.add_sub_cancel] at HT;have hsub:((magS n).size:Int)-1=(L:Int):=by omega
 have hemp:(magS n).toList.isEmpty=false:=by
  rw [List.isEmpty_eq_false_iff];exact fun h=>hne (yeb (by rw [h,Go.Lib.toList_data]))
 have hL9:L≤1000000000:=by omega
 clear hL;have HQs:=jX (fun X=>ycN (Nat.div_le_self n X) (Nat.le_trans hs (by decide:1000000000≤1000000001)));generalize magS n=s at *;go_enter Tryz.func193,Tryz.ntmps193
 go_wp2_with fail;refine (HB.out _).mono ?_;rintro e w1 ⟨rfl,rfl⟩;dsimp only;clear HB;obtain⟨M,hM0⟩:∃ M,(8*L+bl+1) / 2=M:=⟨_,rfl⟩;obtain⟨r,hr0⟩:∃ r,M % 8=r:=⟨_,rfl⟩;obtain⟨c,hc0⟩:∃ c,M / 8=c:=⟨_,rfl⟩;have hM:(8*(L:Int)+(bl:Int)+1) / 2=(M:Int):=by omega
 have hr:(M:Int) % 8=(r:Int):=by omega
 have hc:(M:Int) / 8=(c:Int):=by omega
 have hr8:r<8:=by omega
 have HMx:=jX (show M=r+8*c by omega)
 have HM2:=jX (show 8*L+bl≤2*M by omega)
 have hc9:c≤1000000000:=by omega
 have hrt:(M:Int).tmod 8=(r:Int):=by rw [Int.tmod_eq_emod_of_nonneg (by omega)];exact hr
 have hct:(M:Int).tdiv 8=(c:Int):=by rw [Int.tdiv_eq_ediv_of_nonneg (by omega)];exact hc
 have hrn:((r:Int)).toNat=r:=by omega
 have hrm:min r 8=r:=by omega
 have hcw:IntKind.i64.wrap (c:Int)=(c:Int):=IntWalk.i64_in _ (by omega);have hwp:IntKind.u8.wrap ((2:Int) ^ r)=((2 ^ r:Nat):Int):=wrap_pow ⟨r,hr8⟩;obtain⟨pb,hpb⟩:∃ pb,2 ^ r=pb:=⟨_,rfl⟩;have Hpb:=jX hpb;rw [hpb] at hwp;clear hM0 hr0 hc0 hpb;go_upto_region 5 with (fail)
 have Hrep:=jX (fun w=>Tryz.strings_Repeat ⟨#[0]⟩ c w (by omega) (by rw [show (⟨#[0]⟩:ByteArray).size=1 from rfl];omega))
 have HPW:=jX (congrArg Value.string (pow_app r c pb M hr8 Hpb.out HMx.out))
 have HSZ:Hid (¬ 9223372036854775807<(strOfNums [(pb:Int)]).size+(⟨(repeatL [0] c).toArray⟩:ByteArray).size):=by
  have h1:(strOfNums [(pb:Int)]).size=1:=rfl
  have h2:(⟨(repeatL [0] c).toArray⟩:ByteArray).size=c:=by
   show (repeatL [0] c).toArray.size=c
   rw [List.size_toArray,repeatL_length,List.length_singleton,Nat.mul_one]
  refine jX ?_;rw [h1,h2];omega
 go_cut [3,4] (fun _ xv wx=>xv = .string (magS (2 ^ M))∧Below w1.heap.size w1 wx)
 case first =>
  have HBu:=jX ((Below.refl w1.heap.size w1).drew);refine yao (S:=fun _=>True) 8 (by kernel_rfl) (by kernel_rfl) (fun _ _ d _ _ h=>by cases d<;>exact h) ?_;generalize World.drew w1=u at *;refine' jV (v:=_) 0 trivial (fun w _=>?ha0) (fun K hK=>?ka0)
  case ha0=>(go_simp;try rfl)
  go_simp;refine hK _ ?_;clear hK K;refine' jV (v:=_) 1 trivial (fun w _=>?hb1) (fun K hK=>?kb1)
  case hb1=>(go_simp;try rfl)
  go_simp;refine hK _ ?_;clear hK K;refine' jV (v:=_) 2 trivial (fun w _=>?hc2) (fun K hK=>?kc2)
  case hc2=>(go_simp;try rfl)
  go_simp;refine hK _ ?_;clear hK K;refine' jV (v:=_) 5 trivial (fun w _=>?hd5) (fun K hK=>?kd5)
  case hd5=>(go_simp;try rfl)
  go_simp;refine hK _ ?_;clear hK K;refine' jV (v:=_) 6 trivial (fun w _=>?he6) (fun K hK=>?ke6)
  case he6=>(go_simp;try rfl)
  go_simp;refine hK _ ?_;clear hK K;refine ybe 3 7 (by kernel_rfl) (by decide) (by decide) (by rfl) (by rfl) (by rfl) (by rfl) (fun K hK=>?_) (fun K hK=>?_)
  ·skip
   obtain⟨v1,g,e1,e2,bg,hg,hgu,hk2⟩:=al1 u (.cells #[.int .u8 (pb:Int)] 5);go_simp;rw [← e1];clear e1 e2;have HBu:=jX (HBu.out.trans (Below.mono hk2.bz HBu.out.size));refine hK _ _ trivial ?_;clear hK K;refine ybe 4 7 (by kernel_rfl) (by decide) (by decide) (by rfl) (by rfl) (by rfl) (by rfl) (fun K hK=>?_) (fun K hK=>?_)
   ·skip
    have hcv:=conv1 bg;go_simp;refine hK _ _ trivial ?_;clear hK K hcv;refine jO 7 (fun K hK=>?_);refine yaf 231 #[.string ⟨#[0]⟩,.int .i64 (c:Int)] (by go_simp) ?_;refine (Hrep.out _).mono ?_;rintro e v2 ⟨rfl,hb1⟩;have HBu:=jX (HBu.out.trans (Below.mono hb1 HBu.out.size));refine ⟨_,rfl,?_⟩;refine hK _ _ trivial ?_;clear hK K;refine ⟨by kernel_rfl,?_⟩;simp only [List.drop_succ_cons,List.drop_zero];have HP2:=HPW.out;have hz:=HSZ.out;generalize strOfNums [(pb:Int)]=SA at *;generalize (⟨(repeatL [0] c).toArray⟩:ByteArray)=SB at *;have HP2:=jX HP2;go_wp2_with fail;go_meet
    exact ⟨rfl,HBu.out⟩
   skip
   refine yaf 231 #[.string ⟨#[0]⟩,.int .i64 (c:Int)] (by go_simp) ?_;refine (Hrep.out _).mono ?_;rintro e v2 ⟨rfl,hb1⟩;have HBu:=jX (HBu.out.trans (Below.mono hb1 HBu.out.size));refine ⟨_,rfl,?_⟩;refine hK _ _ trivial ?_;clear hK K;have bg:=(hb1.block g hgu).trans bg;refine jO 4 (fun K hK=>?_);have hcv:=conv1 bg;go_simp;refine hK _ _ trivial ?_;clear hK K hcv;refine ⟨by kernel_rfl,?_⟩;simp only [List.drop_succ_cons,List.drop_zero];have HP2:=HPW.out;have hz:=HSZ.out;generalize strOfNums [(pb:Int)]=SA at *;generalize (⟨(repeatL [0] c).toArray⟩:ByteArray)=SB at *;have HP2:=jX HP2;go_wp2_with fail;go_meet
   exact ⟨rfl,HBu.out⟩
  skip
  refine yaf 231 #[.string ⟨#[0]⟩,.int .i64 (c:Int)] (by go_simp) ?_;refine (Hrep.out _).mono ?_;rintro e v1 ⟨rfl,hb1⟩;have HBu:=jX (HBu.out.trans (Below.mono hb1 HBu.out.size));refine ⟨_,rfl,?_⟩;refine hK _ _ trivial ?_;clear hK K;refine jO 3 (fun K hK=>?_);obtain⟨v2,g,e1,e2,bg,hg,hgu,hk2⟩:=al1 v1 (.cells #[.int .u8 (pb:Int)] 5);go_simp;rw [← e1];clear e1 e2;have HBu:=jX (HBu.out.trans (Below.mono hk2.bz HBu.out.size));refine hK _ _ trivial ?_;clear hK K;refine jO 4 (fun K hK=>?_);have hcv:=conv1 bg;go_simp;refine hK _ _ trivial ?_;clear hK K hcv;refine ⟨by kernel_rfl,?_⟩;simp only [List.drop_succ_cons,List.drop_zero];have HP2:=HPW.out;have hz:=HSZ.out;generalize strOfNums [(pb:Int)]=SA at *;generalize (⟨(repeatL [0] c).toArray⟩:ByteArray)=SB at *;have HP2:=jX HP2;go_wp2_with fail;go_meet
  exact ⟨rfl,HBu.out⟩
 obtain⟨rfl,hbw⟩:=hcut;have HBw:=jX hbw;have HQ0:=jX (Nat.le_of_lt (isq_pow HT.out HM2.out));have HQp:=jX (isq_pos Hpos.out);have HXs:Hid (∀ X,X≤2 ^ M→(magS X).size≤1000000001):=fun X hX=>Nat.le_trans (mag_le hX HMx.out hr8) (by omega);clear hbw hs;go_wp2_with fail;go_loopw [4] (fun xv wr=>∃ X:Nat,isq n≤X∧X≤2 ^ M∧xv = .string (magS X)∧Keep [] wc wr) (fun xv _=>natB (strOf xv))
 case atStart=>exact ⟨2 ^ M,HQ0.out,Nat.le_refl _,rfl,Keep.refl _ _⟩
 case round =>
  obtain⟨X,hX,hXM,rfl,hk⟩:=hrel;have HX:=jX hX;have HXM:=jX hXM;have HK:=jX hk;have HX0:Hid (0<X):=Nat.lt_of_lt_of_le HQp.out hX;have HN:=jX (yfZ hX HX0.out);have HSx:=jX (HXs.out X hXM);have HSq:=jX (HQs.out X);clear hX hXM hk;go_wp2_with fail;refine (HD.out X HX0.out HSx.out _).mono ?_;rintro e w2 ⟨rfl,hk2⟩;dsimp only;have HK:=jX (HK.out.tz hk2);clear hk2;go_wp2_with fail;refine (HA.out X (n / X) HSx.out HSq.out _).mono ?_;rintro e w3 ⟨rfl,hk3⟩;dsimp only;have HK:=jX (HK.out.tz hk3);clear hk3;go_wp2_with fail;refine (HH.out (X+n / X) (mag_sum HSx.out HSq.out) _).mono ?_;rintro e w4 ⟨rfl,hk4⟩;dsimp only;have HK:=jX (HK.out.tz hk4);clear hk4;generalize n / X=q at *;generalize (X+q) / 2=Y at *;go_wp2_with fail;refine (HC.out Y X _).mono ?_;rintro e w5 ⟨rfl,hk5⟩;dsimp only;have HK:=jX (HK.out.tz hk5);clear hk5
  have hcmp:(0≤Lib.compareInt (Y:Int) (X:Int))↔X≤Y:=by
   unfold Lib.compareInt;split
   ·constructor<;>intro h<;>omega
   split
   ·constructor<;>intro h<;>omega
   constructor<;>intro h<;>omega
  generalize Lib.compareInt (Y:Int) (X:Int)=z at *;have Hcmp:=jX hcmp;clear hcmp;by_cases hz:0≤z
  ·have hXY:=Hcmp.out.1 hz
   have hfin:X=isq n:=by
    rcases HN.out.2 with h|h
    ·omega
    exact h
   have HF:=jX hfin;have HBk:=jX (HBw.out.trans (Below.mono HK.out.bz HBw.out.size));clear hfin hXY;go_wp2_with fail;go_ret
   exact ⟨by rw [← HF.out];rfl,HBk.out⟩
  have hYX:Y<X:=Nat.lt_of_not_le fun h=>hz (Hcmp.out.2 h);have HYX:=jX hYX;clear hYX;go_wp2_with fail;go_roundw
  case rel=>exact ⟨Y,HN.out.1,by have:=HYX.out;have:=HXM.out;omega,rfl,HK.out⟩
  case measure=>show natB (magS Y)<natB (magS X);rw [yau,yau];exact HYX.out
end
end Go.Proofs.YtpgffjjpiafhpaaGreatDoor
