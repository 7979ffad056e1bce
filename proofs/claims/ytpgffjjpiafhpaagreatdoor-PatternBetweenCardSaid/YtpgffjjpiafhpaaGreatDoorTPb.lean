/- Parts of a proof: Pn@b Ue@b Uh@b Vd@b Iz@b Vb@b If@b Fa@b Fb@b Fd@b Ea@b Hq@b Ec@b Ed@b Eg@b Eh@b Ei@b Ej@b Ek@b Hb@b. -/
import Derived.Test.YtpgffjjpiafhpaaGreatDoorP18
import Derived.Test.YtpgffjjpiafhpaaGreatDoorP17
import Derived.Test.YtpgffjjpiafhpaaGreatDoorP15
import Derived.Test.YtpgffjjpiafhpaaGreatDoorP14
import Derived.Test.YtpgffjjpiafhpaaGreatDoorP19
import Derived.Test.YtpgffjjpiafhpaaGreatDoorP20
import Derived.Test.YtpgffjjpiafhpaaGreatDoorP23
import Derived.Test.YtpgffjjpiafhpaaGreatDoorP32
set_option linter.unusedVariables false
set_option linter.unusedSimpArgs false
set_option linter.unusedSectionVars false
set_option maxRecDepth 100000
set_option maxHeartbeats 8000000
namespace Go.Proofs.YtpgffjjpiafhpaaGreatDoor
open Go.RowKit Tryz
theorem normK_has (l:List (Iv K)) (x:Bd K):hasL (normK l) x=hasL l x:=by rw [combK_has];simp [decV,yeZ]
theorem Minus_c (a b:Bool) (w:World):Calls prog 124 #[.bool a,.bool b] w fun e w'=>e = .returned (.bool (decV 3 a b))∧Keep [] w w':=by
 cases a<;>cases b
 all_goals
  go_enter func124,ntmps124
  go_wp2_with fail;go_ret
  exact ⟨rfl,Keep.refl _ _⟩
theorem Minus_pT (a b:List (Iv K)) (ha:∀ i∈a,i.f<i.l) (hb:∀ i∈b,i.f<i.l) (w:World) (sv tv:Value) (hr:IvR w sv a) (hs:IvR w tv b) (h9:a.length≤10000) (h8:b.length≤10000) :
  Calls prog 74 #[sv,tv] w fun e w'=>∃ v,e = .returned v∧IvR w' v (combK 3 a b)∧Keep [] w w'∧TyI w' v:=by
 have H:=jX (ygz (decV 3) 124 (enters_of func124 (by kernel_rfl) rfl) (fun x y w=>Minus_c x y w) (ycQ 3) a b ha hb w sv tv hr hs h9 h8);obtain⟨ao,ac,rfl,_⟩:=hr.form;obtain⟨bo,bc,rfl,_⟩:=hs.form;clear hr hs ha hb;go_enter func74,ntmps74
 go_wp2_with fail;refine H.out.mono ?_;rintro e w1 ⟨v,out,rfl,hv,h1,h2,hk,ht⟩;dsimp only;have HV:=jX (show IvR w1 v (combK 3 a b) by rw [← yep h1 h2];exact hv)
 have HK:=jX hk;have HT:=jX ht;obtain⟨vo,vc,rfl,_⟩:=hv.form;clear hv h1 h2 hk ht;go_wp2_with fail;go_ret
 exact ⟨_,rfl,HV.out,HK.out,HT.out⟩
theorem Minus_p (a b:List (Iv K)) (ha:∀ i∈a,i.f<i.l) (hb:∀ i∈b,i.f<i.l) (w:World) (sv tv:Value) (hr:IvR w sv a) (hs:IvR w tv b) (h9:a.length≤10000) (h8:b.length≤10000) :
  Calls prog 74 #[sv,tv] w fun e w'=>∃ v,e = .returned v∧IvR w' v (combK 3 a b)∧Keep [] w w':=(Minus_pT a b ha hb w sv tv hr hs h9 h8).mono fun _ _ ⟨v,h1,h2,h3,_⟩=>⟨v,h1,h2,h3⟩
section
open Classical
theorem covers_c (a b:List (Iv K)) (ha:∀ i∈a,i.f<i.l) (hb:∀ i∈b,i.f<i.l) (w:World) (sv tv:Value) (hr:IvR w sv a) (hs:IvR w tv b) (h9:a.length≤10000) (h8:b.length≤10000) :
  Calls prog 50 #[sv,tv] w fun e w'=>e = .returned (.bool (decide (combK 3 b a=[])))∧Keep [] w w':=by
 have H:=jX (Minus_p b a hb ha w tv sv hs hr h8 h9);obtain⟨ao,ac,rfl,_⟩:=hr.form;obtain⟨bo,bc,rfl,_⟩:=hs.form;clear hr hs ha hb;go_enter func50,ntmps50
 go_wp2_with fail;refine H.out.mono ?_;rintro e w1 ⟨v,rfl,hv,hk⟩;dsimp only;have HK:=jX hk;obtain⟨vo,vc,rfl,_⟩:=hv.form;obtain⟨r,hr⟩:∃ r,decide (combK 3 b a=[])=r:=⟨_,rfl⟩
 have hd:(((combK 3 b a).length:Int) == 0)=r:=by
  rw [← hr,Bool.eq_iff_iff,beq_iff_eq,decide_eq_true_iff,← List.length_eq_zero_iff];omega
 have HRr:=jX hr;clear hv hk H hr;generalize (combK 3 b a).length=n at *;go_wp2_with fail;go_ret
 exact ⟨by rw [HRr.out];rfl,HK.out⟩
end
section
open Go.ChangeShapes Go.WideShapes Go.ChangeAt
theorem agg_of_cells {v:Value} {l:List Value} (h:v.cells.toList=l) (hl:l.length≠1):v = .agg l.toArray:=by
 cases v with
 | agg c=>subst h;simp [Value.cells]
 | _=>subst h;exact absurd rfl hl
end
section
variable {P:Program} {ops:Array Oper} {Q:Exit→Act→World→Prop} {rest:List Oper} {o:Oper} {a:Act} {w:World}
theorem gWC (hw:Region.wanted o (yielded ops a.tmps)=true)
  (h:∀ K:Act→World→Prop,(∀ a w,wpList P ops Q rest a w→K a w)→o.wp P a w K Q):wpList P ops Q (o :: rest) a w:=by
 unfold wpList;rw [if_pos hw];exact .inl (h _ fun _ _ h=>h)
theorem gWE (hw:Region.wanted o (yielded ops a.tmps)=true)
  (h:∃ v,(execOp a.eval o).run P w = .ok (.value v) w∧∀ K:Act→World→Prop,(∀ a w,wpList P ops Q rest a w→K a w)→K (a.put o.dst v) w):wpList P ops Q (o :: rest) a w:=by
 obtain⟨v,h1,h2⟩:=h;exact gWC hw fun K hK=>ybH v w h1 (h2 K hK)
theorem gWS (hw:Region.wanted o (yielded ops a.tmps)=false)
  (h:∀ K:Act→World→Prop,(∀ a w,wpList P ops Q rest a w→K a w)→K (a.put o.dst undef) w):wpList P ops Q (o :: rest) a w:=by
 unfold wpList;rw [hw];exact h _ fun _ _ h=>h
end
section
open Classical
section
variable {S:List K} {w0 w w':World} {L:List (Value × List (Iv K))}
variable {v u:Value} {a b:List (Iv K)}
def BoolPost (S:List K) (w0:World) (L:List (Value × List (Iv K))) (r:Bool) (e:Ending) (w':World):Prop:=e = .returned (.bool r)∧MP S w0 w' L
theorem boolPost_of (h:MP S w0 w L) {r:Bool} {f:Nat} {args:Array Value} (hc:Calls prog f args w fun e w'=>e = .returned (.bool r)∧Keep [] w w'):Calls prog f args w (BoolPost S w0 L r) :=
 hc.mono fun e w' ⟨he,hk⟩=>⟨he,h.move hk⟩
theorem MP.cov (h:MP S w0 w L) (hv:(v,a)∈L) (hu:(u,b)∈L):Calls prog 50 #[v,u] w (BoolPost S w0 L (decide (combK 3 b a=[]))) :=
 boolPost_of h (covers_c a b (h.val hv) (h.val hu) w v u (h.get hv) (h.get hu) (by have:=h.len hv;omega) (by have:=h.len hu;omega))
end
end
section
open Classical
theorem pw_cases {α:Type} {R:α→α→Prop} {a b:α}:∀ {l:List α},l.Pairwise R→a∈l→b∈l→a=b∨R a b∨R b a
 | [],_,h,_=>by cases h
 | x :: l,hp,ha,hb=>by
  rw [List.pairwise_cons] at hp;rcases List.mem_cons.1 ha with h1|ha'
  ·rcases List.mem_cons.1 hb with h2|hb'
   ·exact .inl (h1.trans h2.symm)
   exact .inr (.inl (h1 ▸ hp.1 _ hb'))
  rcases List.mem_cons.1 hb with h2|hb'
  ·exact .inr (.inr (h2 ▸ hp.1 _ ha'))
  exact pw_cases hp.2 ha' hb'
theorem sub_in {T D:List (Iv K)} (hD:Norm D) (hT:∀ i∈T,i.f<i.l) (hs:SubL T D):∀ i∈T,∃ j∈D,j.f≤i.f∧i.l≤j.l:=by
 intro i hi;have hv:=hT i hi;obtain⟨j,hj,h1,h2⟩:=hasL_ex.1 (hs i.f (hasL_ex.2 ⟨i,hi,by grind,hv⟩));refine ⟨j,hj,h1,?_⟩;apply Classical.byContradiction;intro hn;have h3:j.l<i.l:=by grind
 obtain⟨j',hj',h4,h5⟩:=hasL_ex.1 (hs j.l (hasL_ex.2 ⟨i,hi,by grind,h3⟩));have hvj:=hD.val j hj;rcases pw_cases hD.pair hj hj' with rfl|h|h<;>grind
section
variable {k:Nat} {q:Rat} (hk:k≤900) (hq:FitQ 24 q)
include hk hq
theorem mvB_le {a b:Bd K} (ha:Sm k a.pt) (hb:Sm k b.pt):(⟨mvK q a.pt,a.beh⟩:Bd K)≤⟨mvK q b.pt,b.beh⟩↔a≤b:=by
 rw [Bd.le_def,Bd.le_def];dsimp only;rw [mvK_lt hk hq ha hb,mvK_eq hk hq ha hb]
theorem sub_mv {T D:List (Iv K)} (hsT:∀ i∈T,SmI k i) (hsD:∀ i∈D,SmI k i) (hD:Norm D) (hT:∀ i∈T,i.f<i.l) (hs:SubL T D):SubL (T.map (mvI q)) (D.map (mvI q)):=by
 intro x hx;obtain⟨i',hi',h1,h2⟩:=hasL_ex.1 hx;obtain⟨i,hi,rfl⟩:=List.mem_map.1 hi';obtain⟨j,hj,h3,h4⟩:=sub_in hD hT hs i hi;refine hasL_ex.2 ⟨mvI q j,List.mem_map_of_mem hj,?_,?_⟩
 ·have:=(mvB_le hk hq (hsD j hj).1 (hsT i hi).1).2 h3
  have h5:(mvI q j).f≤(mvI q i).f:=this;grind
 have:=(mvB_le hk hq (hsT i hi).2 (hsD j hj).2).2 h4;have h5:(mvI q i).l≤(mvI q j).l:=this;grind
end
end
section
open Classical
section
variable {k:Nat} {q:Rat} (hk:k≤900) (hq:FitQ 24 q)
include hk hq
end
theorem SubL.comb2 {a b c d:List (Iv K)} (h:SubL a c) (h2:SubL b d):SubL (combK 2 a b) (combK 2 c d):=fun x hx=>by
 rw [combK_has] at hx ⊢;have hx:(hasL a x&&hasL b x)=true:=hx;show (hasL c x&&hasL d x)=true
 rw [Bool.and_eq_true] at hx ⊢;exact ⟨h x hx.1,h2 x hx.2⟩
theorem SubL.left {a b:List (Iv K)}:SubL (combK 2 a b) a:=fun x hx=>by
 rw [combK_has] at hx;have hx:(hasL a x&&hasL b x)=true:=hx;exact (Bool.and_eq_true_iff.1 hx).1
theorem sub_norm {a b:List (Iv K)} (h:SubL a b):SubL (normK a) (normK b):=fun x hx=>by rw [normK_has] at *;exact h x hx
section
variable {k:Nat} (hk:k≤800)
include hk
theorem sub_ero {q:Rat} (hq:FitQ 24 q) {l m:List (Iv K)} (hl:Norm l) (hm:Norm m) (sl:∀ i∈l,SmI k i) (sm:∀ i∈m,SmI k i) (h:SubL l m):SubL (eroK q l) (eroK q m):=by
 refine sub_norm fun x hx=>?_;obtain⟨i',hi',h1,h2⟩:=hasL_ex.1 hx;obtain⟨⟨i,hi,rfl⟩,hv⟩:=ygB.1 hi';obtain⟨j,hj,h3,h4⟩:=sub_in hm hl.val h i hi;have h5:mvB (-q) i.l≤mvB (-q) j.l:=(mvB_le (k:=k) (by omega) hq.neg (sl i hi).2 (sm j hj).2).2 h4;have g1:i.f≤x:=h1;have g2:x<mvB (-q) i.l:=h2;have g3:i.f<mvB (-q) i.l:=hv;refine hasL_ex.2 ⟨eroI q j,ygB.2 ⟨⟨j,hj,rfl⟩,?_⟩,?_,?_⟩
 ·show j.f<mvB (-q) j.l
  grind
 ·show j.f≤x
  grind
 show x<mvB (-q) j.l
 grind
theorem sub_swp {a b:Rat} (ha:FitQ 24 a) (hb:FitQ 24 b) {l m:List (Iv K)} (hl:Norm l) (hm:Norm m) (sl:∀ i∈l,SmI k i) (sm:∀ i∈m,SmI k i) (h:SubL l m):SubL (swpK a b l) (swpK a b m):=by
 refine sub_norm fun x hx=>?_;obtain⟨i',hi',h1,h2⟩:=hasL_ex.1 hx;obtain⟨i,hi,rfl⟩:=List.mem_map.1 hi';obtain⟨j,hj,h3,h4⟩:=sub_in hm hl.val h i hi;have h5:mvB b i.l≤mvB b j.l:=(mvB_le (k:=k) (by omega) hb (sl i hi).2 (sm j hj).2).2 h4;have h6:mvB a j.f≤mvB a i.f:=(mvB_le (k:=k) (by omega) ha (sm j hj).1 (sl i hi).1).2 h3;have g1:mvB a i.f≤x:=h1;have g2:x<mvB b i.l:=h2;refine hasL_ex.2 ⟨swpI a b j,List.mem_map_of_mem hj,?_,?_⟩
 ·show mvB a j.f≤x
  grind
 show x<mvB b j.l
 grind
end
theorem sub_cov {a b:List (Iv K)} (h:SubL a b):combK 3 a b=[]:=yeK (l:=[]) trivial fun x=>by
 rw [yeZ];show false=(hasL a x && !hasL b x)
 cases ha:hasL a x
 ·rfl
 rw [h x ha];rfl
end
section
open Classical
section
variable {s:Nat→St} (h:StOk s)
include h
end
section
variable {s:Nat→St} (h:∀ i,Few 16 (s i).d)
include h
end
section
variable {s:Nat→St} (h:∀ i,Few 16 (s i).d)
include h
end
section
variable {s t:Nat→St} (h:StOk s) {q:Rat} (hq:FitQ 24 q)
 (hd:∀ i,(t i).d=(s i).d.map (mvI q)) (hg:∀ i,(t i).g=(s i).g) (ha:∀ i,(t i).a=(s i).a) (hb:∀ i,(t i).b=(s i).b)
include h hq hd hg ha hb
end
theorem map_sub {k:Nat} {q:Rat} (hk:k≤800) (hq:FitQ 24 q) {l m:List (Iv K)} (hl:Norm l) (hm:Norm m) (sl:∀ i∈l,SmI k i) (sm:∀ i∈m,SmI k i) (h:SubL l m):SubL (l.map (mvI q)) (m.map (mvI q)) :=
 sub_mv (k:=k) (by omega) hq sl sm hm hl.val h
section
variable {s t:Nat→St} (h:StOk s) (k:StOk t)
 (hd:∀ i,SubL (t i).d (s i).d) (hg:∀ i,(t i).g=(s i).g) (ha:∀ i,(t i).a=(s i).a) (hb:∀ i,(t i).b=(s i).b)
include h k hd hg ha hb
theorem rch_sub:∀ i,i≤4→SubL (rchS t i) (rchS s i)
 | 0,_=>by
  unfold rchS;rw [hg];exact sub_ero (k:=28) (by omega) (ycG (h.g 0)) (k.norm 0) (h.norm 0) (k.sm 0) (h.sm 0) (hd 0)
 | i+1,hi=>by
  refine SubL.comb2 ?_ ?_
  ·rw [hg]
   exact sub_ero (k:=28) (by omega) (ycG (h.g (i+1))) (k.norm (i+1)) (h.norm (i+1)) (k.sm (i+1)) (h.sm (i+1)) (hd (i+1))
  rw [hg,ha,hb];have r1:=rch_sm h i (by omega);have r2:=rch_sm k i (by omega)
  have mm:∀ l:List (Iv K),(∀ j∈l,SmI (53+50*i) j)→∀ j∈l.map (mvI (s i).g),SmI (78+50*i) j:=fun l hl j hj=>by
   obtain⟨j',hj',rfl⟩:=List.mem_map.1 hj;exact (mvI_sm (hl j' hj') (by omega) (ycG (h.g i))).mono (by omega)
  exact sub_swp (k:=78+50*i) (by omega) (ycG (h.a (i+1))) (ycG (h.b (i+1))) (norm_mv (k:=53+50*i) (by omega) (ycG (h.g i)) r2 (rch_norm i)) (norm_mv (k:=53+50*i) (by omega) (ycG (h.g i)) r1 (rch_norm i)) (mm _ r2) (mm _ r1)
   (map_sub (k:=53+50*i) (by omega) (ycG (h.g i)) (rch_norm i) (rch_norm i) r2 r1 (rch_sub i (by omega)))
theorem liv_sub {n:Nat} (hn:n≤4):∀ j,j≤4→SubL (livS t n j) (livS s n j)
 | 0,_=>rch_sub h k hd hg ha hb (n-1) (by omega)
 | j+1,hj=>by
  refine SubL.comb2 (rch_sub h k hd hg ha hb (n-2-j) (by omega)) ?_;rw [hg,ha,hb];exact sub_swp (k:=253+25*j) (by omega) (yej (h.b (n-2-j+1)) (h.g (n-2-j))).neg (yej (h.a (n-2-j+1)) (h.g (n-2-j))).neg (ygU j) (ygU j) (yfL k hn j (by omega)) (yfL h hn j (by omega)) (liv_sub hn j (by omega))
end
end
section
open Classical
section
variable {w w':World} {L M:List (Value × List (Iv K))} {v u:Value} {a b l:List (Iv K)}
theorem Ls.cov (h:Ls w L) (hv:(v,a)∈L) (hu:(u,b)∈L):Calls prog 50 #[v,u] w (BPost w (decide (combK 3 b a=[]))) :=
 bPost_of (covers_c a b (h.val hv) (h.val hu) w v u (h _ hv).1 (h _ hu).1 (h _ hv).2.2 (h _ hu).2.2)
end
section
variable {α:Type} {enc:α→List Value} {e:TypeId} {k:Nat} {w0 w w':World} {v:Value} {l:List α}
end
end
section
open Classical
open Go.ChangeShapes Go.WideShapes Go.ChangeAt
structure RawF where
 a1:Bool
 a2:ByteArray
 a3:Bool
 a4:ByteArray
def RawF.C (x:RawF):Array Value:=#[.bool x.a1,.string x.a2,.bool x.a3,.string x.a4]
def RawF.v (x:RawF):Value:=.agg x.C
def RawF.sz (x:RawF) (k:Nat):Prop:=x.a2.size≤k∧x.a4.size≤k
noncomputable def RawF.ok (x:RawF):Bool:=decide (x.a2.size+x.a4.size≤8)&&chkQ x.a1 x.a2 x.a3 x.a4
noncomputable def RawR.ok (x:RawR):Bool:=decide (x.a2.size+x.a4.size≤8)&&(decide (x.b2.size+x.b4.size≤8)&&decide x.isK)
end
section
open Classical
theorem stepsOf_pts {l:List EvA} {s:St} (h:s∈yaV l):∃ S:List K,S.length≤8∧(∀ x∈S,Sm 5 x)∧PtsIn S s.d:=by
 obtain⟨i,e,rfl⟩:=ydP h;exact evS_pts i e
def StsT (w:World) (svs:List StV):Prop:=∀ x∈svs,Ls w [(x.v,x.s.d)]∧TyI w x.v
theorem StsT.grow {w w':World} {vs:List StV} (h:StsT w vs) (hb:Below w.heap.size w w'):StsT w' vs:=fun x hx=>⟨(h x hx).1.grow hb,(h x hx).2.grow hb⟩
theorem s_ne:65≠32:=by decide
theorem StsT.ty {w w':World} {vs:List StV} {F:List Nat} (h:StsT w vs) (hF:∀ g∈F,∃ cur,w.heap[g]? = some (.cells cur 65)) (hk:Keep F w w'):StsT w' vs:=fun x hx=>(h x hx).1.tyE s_ne (h x hx).2 hF hk
theorem StsT.snoc {w:World} {vs:List StV} {x:StV} (h:StsT w vs) (hx:Ls w [(x.v,x.s.d)]∧TyI w x.v):StsT w (vs++[x]):=fun y hy=>by
 rcases List.mem_append.1 hy with hy|hy
 ·exact h y hy
 rw [List.mem_singleton] at hy;subst hy;exact hx
theorem StsT.str {w0 w:World} {v:Value} {svs:List StV} (h:StsT w svs) (ho:OBS w0 w v svs):StR w v svs :=
 ⟨OB.read ho,fun p hp=>by
  obtain⟨x,hx,rfl⟩:=List.mem_map.1 hp
  exact (h x hx).1 _ (List.mem_singleton.2 rfl)⟩
theorem put_d (a a':Option Addr) (c c':Nat) (d d':List (Iv K)) (g x y:Rat):(StV.C ⟨a,c,⟨d,g,x,y⟩⟩).setIfInBounds 0 (.slice a' d'.length c')=StV.C ⟨a',c',⟨d',g,x,y⟩⟩:=by
 rw [StV.eC,StV.eC];rfl
end
section
open Classical
open Go.ChangeShapes Go.WideShapes Go.ChangeAt
def EvArg (w:World) (v:Value):Prop:=∃ a c e,v = .agg (fvcells (.slice a (EvA.ps e).length c) e).toArray∧PartsAt w (.slice a (EvA.ps e).length c) (EvA.ps e)
theorem EvArg_open {H:Type} {enc:TypeId × Value→H} {W:World} {v:Value} {base:Nat} {d:DataW H} {p:List MemPlace} (hv:Value.okWide prog W .any base 80 v)
  (h:∃ m,DataW.trod enc prog W 0 (fun _=>true) true m 80 v.cells.toList=some (d,p)):EvArg W v:=by
 obtain⟨m,hm⟩:=h;obtain⟨s,e,ha,hp⟩:=yhx hm;obtain⟨a,c,rfl,_⟩:=hp.form;exact ⟨a,c,e,agg_of_cells ha (by simp [fvcells]),hp⟩
theorem infoVnB:(prog.info? 80).map (fun i=>(i.zero.map Value.cells,i.size,i.bytes))=some (some #[.slice none 0 0,.int .u8 0,.int .u8 0,.int .u8 0,.int .u8 0],5,32):=by kernel_rfl
theorem fill_ev (a:Option Addr) (n c:Nat) (x1 x2 x3 x4:Int):Instr.fill (fun i=>some (i*5,5)) ((Array.range (1*5)).map ((#[.slice none 0 0,.int .u8 0,.int .u8 0,.int .u8 0,.int .u8 0]:Array Value)[· % (#[.slice none 0 0,.int .u8 0,.int .u8 0,.int .u8 0,.int .u8 0]:Array Value).size]!)) #[(0,Value.agg #[.slice a n c,.int .u8 x1,.int .u8 x2,.int .u8 x3,.int .u8 x4])].toList=some #[.slice a n c,.int .u8 x1,.int .u8 x2,.int .u8 x3,.int .u8 x4]:=by kernel_rfl
theorem build1_ev (a:Option Addr) (n c:Nat) (e:EvA) (w:World):(Instr.buildSlice 60 1 #[(0,.agg (fvcells (.slice a n c) e).toArray)]).run prog w = .ok (.slice (some ⟨w.heap.size,0,none⟩) 1 1) (w.alloc (.cells (fvcells (.slice a n c) e).toArray 80)):=by
 have h:=infoVnB;cases hi:prog.info? 80 with
 | none=>rw [hi] at h;cases h
 | some i =>
  rw [hi] at h;simp only [Option.map_some,Option.some.injEq,Prod.mk.injEq] at h;obtain⟨h1,h2,h3⟩:=h;cases hz:i.zero with
  | none=>rw [hz] at h1;cases h1
  | some z =>
   rw [hz] at h1;injection h1 with h1;refine run_buildSlice (P:=prog) w 60 80 1 _ _ i z underlying60 hi hz (by rw [h2];decide) (by rw [h2];decide) ?_;rw [h2,h1];exact fill_ev _ _ _ _ _ _ _
theorem evs_one {w:World} {g:Nat} {s:Value} {e:EvA} {t:TypeId} (h:w.heap[g]? = some (.cells (fvcells s e).toArray t)) (hp:PartsAt w s e.ps):EvsAt w (.slice (some ⟨g,0,none⟩) 1 1) [e] :=
 .inr ⟨g,0,1,rfl,by simp [maxLen],fun i hi=>by
  obtain rfl:i=0:=by simp at hi;omega
  refine ⟨s,fun j v hj=>?_,hp⟩;rw [show 0+0*5+j=j by omega,yac h]
  exact (List.getElem?_toArray ..).trans hj⟩
def DurP (w:World) (d:List (Iv K)) (e:Ending) (w':World):Prop:=∃ g o c a n,e = .returned (.slice (some ⟨g,o,none⟩) 1 c)∧g<w'.heap.size∧w'.cell? ⟨g,o,none⟩=some (.slice a d.length n)∧Ls w' [(.slice a d.length n,d)]∧Below w.heap.size w w'
theorem Steps_one {w:World} {sv:Value} {e:EvA} (h:EvsAt w sv [e]):Calls prog 38 #[sv] w (DurP w (evD e)) :=
 (Steps_s [e] w sv h).mono fun r w' ⟨xa,xc,svs,he,hs,_,hst,hl,hb⟩=>by
  have h1:svs.length=1:=by rw [hl];rfl
  match svs,h1 with
  | [x],_ =>
   obtain⟨g,o,rfl,hg,hat⟩:=hs.elem 0 (by show 0<1;decide)
   have hx:x.s=evS 0 e:=by
    have:[x.s]=[evS 0 e]:=hst;injection this
   have hd:x.s.d=evD e:=by rw [hx];rfl
   have h0:=hat.d0;have hls:=hs.ls (x:=x) (List.mem_singleton.2 rfl);unfold StV.v at hls;change World.cell? _ _=some (StV.v x) at h0;unfold StV.v at h0;rw [hd] at h0 hls;exact ⟨g,o,xc,x.a,x.c,he,hg,by simpa using h0,hls,hb⟩
theorem evD_few (e:EvA):Few 8 (evD e):=⟨evPts e,yfp e,evD_pts e⟩
end
section
open Classical
open Go.ChangeShapes Go.WideShapes Go.ChangeAt
def two (x y:RawF):Array Value:=#[.bool x.a1,.string x.a2,.bool x.a3,.string x.a4,.bool y.a1,.string y.a2,.bool y.a3,.string y.a4]
end
section
open Classical
noncomputable def btS (D:List (Iv K)) (s:St):St:=⟨combK 2 s.d D,s.g,s.a,s.b⟩
def BtP (w:World) (D:List (Iv K)) (l:List St) (e:Ending) (w':World):Prop:=∃ a c vs,e = .returned (.slice a (l.length) c)∧StR w' (.slice a l.length c) vs∧stS vs=l.map (btS D)∧Below w.heap.size w w'
theorem rbetween_c (D:List (Iv K)) (svs:List StV) (h16:svs.length≤16) (hf:∀ x∈svs,(combK 2 x.s.d D).length≤10000) (w:World) (sv dv:Value) (hr:StR w sv svs) (hd:Ls w [(dv,D)]) :
  Calls prog 49 #[sv,dv] w (BtP w D (stS svs)):=by
 obtain⟨xa,xc,rfl⟩:=hr.form;obtain⟨da,dc,he,_⟩:=(hd _ (List.mem_singleton.2 rfl)).1.form;have he:dv = .slice da D.length dc:=he;subst he;have HR:=jX hr;have HD:=jX hd;have HF:=jX hf;have HE:=jX (rfl:BtP w D (stS svs)=BtP w D (stS svs));clear hr hd hf;go_enter func49,ntmps49
 go_wp2_with fail;go_loopw [5,6] (fun ov c wr=>∃ (k:Nat) (vs:List StV),k≤svs.length∧c = .int .i64 (k:Int)∧OBS w wr ov vs∧StsT wr vs∧stS vs=((stS svs).take k).map (btS D)) (fun _ c _=>svs.length-(intOf c).toNat)
 case atStart=>exact ⟨0,[],Nat.zero_le _,rfl,OB.nil w,fun _ h=>(by cases h),rfl⟩
 case round =>
  obtain⟨k,vs,hk,rfl,hov,hvt,hvs⟩:=hrel;have HO:=jX hov;have HT:=jX hvt;have HV:=jX hvs;have Hvl:=jX (show vs.length=k by have:=congrArg List.length hvs;unfold stS at this;simp at this;omega)
  obtain⟨oo,oc,rfl⟩:=OB.form hov;clear hov hvt hvs;by_cases hlt:k<svs.length
  ·obtain⟨g,o,rfl,hg,hat⟩:=StR.elem (HR.out.grow HO.out.keep) k hlt
   have hx:svs[k]∈svs:=List.getElem_mem hlt;have Hlx:=jX ((HR.out.grow HO.out.keep).ls hx);have hlen:=HF.out _ hx
   have Hstep:Hid (((stS svs).take (k+1)).map (btS D)=((stS svs).take k).map (btS D)++[btS D svs[k].s]):=jX (by
    have hl:k<(stS svs).length:=by unfold stS;rw [List.length_map];exact hlt
    have he:(stS svs)[k]=svs[k].s:=List.getElem_map ..
    rw [ycX (btS D) (stS svs) k hl,he])
   have hkc:(k:Int)<(svs.length:Int):=by omega
   have HSh:=jX (fun u v (h:Ls u [(svs[k].v,svs[k].s.d)]) (hd:Ls u [(v,D)])=>h.interT hd hlen);obtain⟨p,hp⟩:∃ p,o+k*13=p:=⟨_,rfl⟩;rw [hp] at hat;generalize svs[k]=x at *;have HL:=jX (ydH wr g p x hat);have hxv:x.v = .slice x.a x.s.d.length x.c:=rfl;rw [hxv] at HSh Hlx;have HDr:=jX (HD.out.grow HO.out.keep);obtain⟨M,hM⟩:∃ M,combK 2 x.s.d D=M:=⟨_,rfl⟩;rw [hM] at HSh;have HM:=jX hM;clear hat hx hlen hxv hM;go_upto_region 5 with (fail)
   refine wp_region_lit ?_;refine' yab (v:=_) (by rfl) (?hc) (fun K hK=>?kc)
   case hc=>(go_simp;try rfl)
   go_simp;refine hK _ _ ?_;clear hK K;refine' yab (v:=_) (by rfl) (?hd) (fun K hK=>?kd)
   case hd=>(go_simp;try rfl)
   go_simp;refine hK _ _ ?_;clear hK K;refine' yab (v:=_) (by rfl) (?he) (fun K hK=>?ke)
   case he=>(go_simp;try rfl)
   go_simp;refine hK _ _ ?_;clear hK K;refine yab (v:=.agg x.C) (by rfl) (yad _ _ ⟨g,p,none⟩ _ rfl rfl HL.out) (fun K hK=>?_);go_simp;refine hK _ _ ?_;clear hK K;obtain⟨w4,gs,e1,e2,bgs,hgs,_,hk1⟩:=al1 wr (.cells #[.slice none 0 0,.bool false,.string ⟨#[]⟩,.bool false,.string ⟨#[]⟩,.bool false,.string ⟨#[]⟩,.bool false,.string ⟨#[]⟩,.bool false,.string ⟨#[]⟩,.bool false,.string ⟨#[]⟩] 65);refine yam (v:=.pointer (some ⟨wr.heap.size,0,none⟩)) (w':=wr.alloc (.cells #[.slice none 0 0,.bool false,.string ⟨#[]⟩,.bool false,.string ⟨#[]⟩,.bool false,.string ⟨#[]⟩,.bool false,.string ⟨#[]⟩,.bool false,.string ⟨#[]⟩,.bool false,.string ⟨#[]⟩] 65)) (by rfl) (al_st _ _ _ rfl) (fun K hK=>?_);rw [← e1,e2];clear e1;go_simp;refine hK _ _ ?_;clear hK K;refine yah (by rfl) _ _ _ rfl gs x.C rfl rfl _ _ bgs (by exact yeS x) (by rfl) x.ones (fun K hK=>?_);obtain⟨w5,e4,b4,k4⟩:=yai (cs:=x.C) bgs;rw [e4];go_simp;refine hK _ _ ?_;clear hK K e4 HL;have hW:=(show Keep [] wr w5 from hk1.trans k4 (by simp;omega)).bz
   have Bgs:=jX b4;have hgw:wr.heap.size≤gs:=by omega
   have HDr:=jX (HDr.out.grow hW);have Hlx:=jX (Hlx.out.grow hW);have HW:=jX hW;clear hW hk1 k4 b4 bgs e2 hgs;have pd:w5.cell? ⟨gs,0,none⟩=some (.slice x.a x.s.d.length x.c):=(ybl Bgs.out).d0;go_upto_region 6 with (fail)
   refine wp_region_lit ?_;refine' yab (v:=_) (by rfl) (?hf) (fun K hK=>?kf)
   case hf=>(go_simp;try rfl)
   go_simp;refine hK _ _ ?_;clear hK K;refine' yab (v:=_) (by rfl) (?hh) (fun K hK=>?kh)
   case hh=>(go_simp;try rfl)
   go_simp;refine hK _ _ ?_;clear hK K;refine' yab (v:=_) (by rfl) (?hi) (fun K hK=>?ki)
   case hi=>(go_simp;try rfl)
   go_simp;refine hK _ _ ?_;clear hK K;refine wpList_plain (by rfl) (fun K hK=>?_);refine yaf 108 #[.slice x.a x.s.d.length x.c,.slice da D.length dc] (by go_simp) ?_;refine (HSh.out _ _ Hlx.out HDr.out).mono ?_;rintro e9 w6 ⟨a1,c1,rfl,hb,hl1,ht1⟩;refine ⟨_,rfl,?_⟩;go_simp;refine hK _ _ ?_;clear hK K;have HW:=jX (HW.out.trans (Below.mono hb HW.out.size));have Bgs:=jX ((hb.block gs (yaa Bgs.out)).trans Bgs.out);have HD2:=jX (And.intro hl1 ht1);clear hb hl1 ht1 HSh Hlx HDr pd;obtain⟨w7,eW,bW,kW⟩:=ybh (v:=.slice a1 M.length c1) Bgs.out (i:=0) (by show 0<13;decide)
   have f0:=yak Bgs.out;have l0:=yaa Bgs.out;have q0:w6.cell? ⟨gs,0,none⟩=some (.slice x.a x.s.d.length x.c):=(ybl Bgs.out).d0
   have hFs:∀ b∈[gs],∃ cur,w6.heap[b]? = some (.cells cur 65):=fun b hb=>by
    rw [List.mem_singleton] at hb;subst hb;exact ⟨_,Bgs.out⟩
   have HD7:=jX (HD2.out.1.tyE s_ne HD2.out.2 hFs kW);have HW7:=jX (HW.out.trans (kW.below (by simp;exact hgw) HW.out.size));have hX:∃ X:StV,X=⟨a1,c1,⟨M,x.s.g,x.s.a,x.s.b⟩⟩:=⟨_,rfl⟩;obtain⟨X,hX⟩:=hX;have Bg7:=jX (show w7.heap[gs]? = some (.cells X.C 65) by rw [hX,← put_d x.a a1 x.c c1 x.s.d M x.s.g x.s.a x.s.b];exact bW)
   have HXs:Hid (X.s=btS D x.s):=jX (by rw [hX,← HM.out];rfl);have HDX:=jX (show Ls w7 [(X.v,X.s.d)]∧TyI w7 X.v by rw [hX];exact HD7.out)
   have HO:=jX (HO.out.later HW7.out);have HT:=jX (HT.out.grow HW7.out);clear hFs kW bW HD2 HD7 HW HM hX Bgs;go_upto_region 7 with (fail)
   clear q0 f0 l0 eW;refine wp_region_lit ?_;refine' yab (v:=_) (by rfl) (?hra) (fun K hK=>?kra)
   case hra=>(go_simp;try rfl)
   go_simp;refine hK _ _ ?_;clear hK K;refine yab (v:=.agg X.C) (by rfl) (yad _ _ ⟨gs,0,none⟩ _ rfl rfl (ydH _ gs 0 X (ybl Bg7.out))) (fun K hK=>?_);go_simp;refine hK _ _ ?_;clear hK K;obtain⟨ub,e6,v4,u4,hr4,ho4,F,hF1,hF2,hk4⟩:=OBS.app X HO.out (by have:=Hvl.out;omega);refine yam (v:=.slice (some ⟨w7.heap.size,0,none⟩) 1 1) (by rfl) (yaT 62 1 #[(0,.tmp 24)] #[(0,.agg X.C)] _ rfl (by simp only [List.map_toArray,List.map_cons,List.map_nil];rfl) (ygR _ _)) (fun K hK=>?_);rw [e6];clear e6;go_simp;refine hK _ _ ?_;clear hK K;refine yam (by rfl) (yaJ (.tmp 23) (.tmp 25) 62 _ _ _ rfl rfl rfl hr4) (fun K hK=>?_);go_simp;refine hK _ _ ?_;clear hK K hr4;have HN4:=jX ho4;have hFt:∀ g∈F,∃ cur,w7.heap[g]? = some (.cells cur 65):=fun g hg=>OBS.ty HO.out g (hF2 g hg);have HT4:=jX ((HT.out.ty hFt hk4).snoc (HDX.out.1.tyE s_ne HDX.out.2 hFt hk4));obtain⟨no,nc,rfl⟩:=OB.form ho4;clear ho4 hFt hF1 hF2 hk4;go_wp2_with fail;go_roundw
   case rel =>
    refine ⟨k+1,vs++[X],by omega,congrArg (Value.int .i64) (by omega),HN4.out,HT4.out,?_⟩;rw [Hstep.out,← HV.out];unfold stS;rw [List.map_append];exact congrArg (fun y=>List.map (·.s) vs++[y]) HXs.out
   case measure=>simp [intOf];omega
  have hkn:k=svs.length:=by omega
  have HvS:=jX (show stS vs=(stS svs).map (btS D) by rw [HV.out,hkn,List.take_of_length_le (by unfold stS;rw [List.length_map];omega)])
  have hvl:vs.length=(stS svs).length:=by have:=Hvl.out;unfold stS;rw [List.length_map];omega
  rw [hvl] at HO;have HR2:=jX (StsT.str HT.out HO.out);have HB:=jX HO.out.keep;have hks:¬ (k:Int)<(svs.length:Int):=by omega
  clear HV Hvl HT;rw [hvl];clear hvl;go_wp2_with fail;go_ret
  exact ⟨_,_,_,rfl,HR2.out,HvS.out,HB.out⟩
end
section
open Classical
theorem OE.ob {α:Type} {enc:α→List Value} {e:TypeId} {k:Nat} {w0 w:World} {v:Value} {l:List α} (h:OE enc e k w0 w v l):OB enc e k w0 w v l:=⟨h.row,h.base,h.keep.bz⟩
theorem build0_s (w:World):(Instr.buildSlice 62 0 #[]).run prog w = .ok (.slice (some ⟨w.heap.size,0,none⟩) 0 0) (w.alloc (.cells #[] 65)):=by
 go_simp
theorem clone_s (l:List StV) (w:World) (sv:Value) (hr:RowE StV.cells w sv l) (h9:l.length≤1000) :
  Calls prog 109 #[sv] w fun e w'=>∃ v,e = .returned v∧OBS w w' v l:=by
 have HR:=jX hr;have q22:∀ (w:World) (a:Option Addr) (n c n' c':Nat),(binOp .eql 62 (.slice a n c) (.slice none n' c')).run prog w = .ok (.bool a.isNone) w:=fun w a n c n' c'=>Lib.run_eql_slice_nil w _ _ a n c n' c' underlying62;rcases hr with ⟨rfl,rfl⟩|⟨g,o,c,rfl,hc,hg,_⟩
 ·clear HR
  go_enter func109,ntmps109
  go_wp2_with fail;go_ret
  exact ⟨_,rfl,OB.nil w⟩
 clear hg hc;go_enter func109,ntmps109
 go_upto_region 3 with (fail)
 refine wp_region_lit ?_;obtain⟨ub,gx,e3,e4,hx⟩:∃ u g,w.alloc (.cells #[] 65)=u∧w.heap.size=g∧OE StV.cells 65 13 w u (.slice (some ⟨g,0,none⟩) 0 0) []:=⟨_,_,rfl,rfl,OE.empty w⟩;refine yam (v:=.slice (some ⟨w.heap.size,0,none⟩) 0 0) (by rfl) (yaT 62 0 #[] #[] _ rfl (by simp) (build0_s w)) (fun K hK=>?_);rw [e3,e4];clear e3;go_simp;refine hK _ _ ?_;clear hK K;refine' yab (v:=_) (by rfl) (?ha) (fun K hK=>?ka)
 case ha=>(go_simp;try rfl)
 go_simp;refine hK _ _ ?_;clear hK K;obtain⟨i,z,hi,hz,hs,hbt,hzc⟩:=st_info;obtain⟨v4,u4,hr4,ho4,hn4,_⟩:=OE.app (P:=prog) (bytes:=168) (ty:=62) underlying62 hi hz hs hbt (by rw [hzc];rfl) (by decide) StV.len StV.one hx (.inl (by simp [Value.ownBlock])) (HR.out.later hx.keep) (by unfold maxLen;simp;omega) (by simp;omega);clear hi hz hs hbt hzc;refine yam (by rfl) (yaJ (.tmp 5) (.tmp 6) 62 _ _ _ rfl rfl rfl hr4) (fun K hK=>?_);go_simp;refine hK _ _ ?_;clear hK K hr4;have HN:=jX (OE.ob ho4);clear ho4 hn4 hx;go_wp2_with fail;go_ret
 exact ⟨_,rfl,HN.out⟩
theorem OBS.set0 {w0 w:World} {g n c:Nat} {A B:List StV} {s t:StV} (h:OBS w0 w (.slice (some ⟨g,0,none⟩) n c) (A++s :: B)) (ht:t.cells=t.v :: s.cells.tail) :
  ∃ W,w.setCell ⟨g,A.length*13,none⟩ t.v=W∧OBS w0 W (.slice (some ⟨g,0,none⟩) n c) (A++t :: B)∧Keep [g] w W∧(∃ cur,w.heap[g]? = some (.cells cur 65))∧w0.heap.size≤g:=by
 have hr:=h.row;have hlen:(A++s :: B).length=(A++t :: B).length:=by simp
 have hbig:A.length+1≤(A++s :: B).length:=by simp
 have hn:n=(A++s :: B).length:=by
  obtain⟨po,pc,e⟩:=h.form;injection e
 subst hn;rw [hlen] at *;obtain⟨h1,k1⟩:=yce hr (o:=A.length*13) (vs:=[t.v]) (by simp;omega)
 have hf:setL ((A++s :: B).flatMap StV.cells) (A.length*13) [t.v]=(A++t :: B).flatMap StV.cells:=by
  have ha:(A.flatMap StV.cells).length=A.length*13:=ydA StV.cells StV.len A;rw [List.flatMap_append,List.flatMap_append,List.flatMap_cons,List.flatMap_cons,ht,← ha];unfold setL;rw [List.take_left,List.append_assoc];congr 1
  rw [List.drop_length_add_append];rfl
 rw [hf] at h1;have hg:=h.base g rfl;refine ⟨_,rfl,⟨h1,h.base,h.keep.trans (k1.below (by simp;exact hg) h.keep.size)⟩,k1,?_,hg⟩;exact OBS.ty h g rfl
end
section
open Classical
def StsW (w0 w:World) (svs:List StV):Prop:=∀ x∈svs,Ls w [(x.v,x.s.d)]∧(TyI w x.v∨Ls w0 [(x.v,x.s.d)])
theorem StsW.grow {w0 w w':World} {vs:List StV} (h:StsW w0 w vs) (hb:Below w.heap.size w w'):StsW w0 w' vs:=fun x hx=>⟨(h x hx).1.grow hb,(h x hx).2.imp (fun t=>t.grow hb) id⟩
theorem StsW.put {w0 w w':World} {A B:List StV} {s t:StV} {g:Nat} (h:StsW w0 w (A++s :: B)) (ht:Ls w [(t.v,t.s.d)]∧TyI w t.v) (hg:∃ cur,w.heap[g]? = some (.cells cur 65)) (h0:w0.heap.size≤g) (hw:Below w0.heap.size w0 w) (hk:Keep [g] w w'):StsW w0 w' (A++t :: B):=by
 have hF:∀ b∈[g],∃ cur,w.heap[b]? = some (.cells cur 65):=fun b hb=>by
  rw [List.mem_singleton] at hb;subst hb;exact hg
 have hw':Below w0.heap.size w0 w':=hw.trans (hk.below (by simp;exact h0) hw.size)
 have old:∀ x∈A++s :: B,Ls w' [(x.v,x.s.d)]∧(TyI w' x.v∨Ls w0 [(x.v,x.s.d)]):=fun x hx=>by
  rcases (h x hx).2 with k|k
  ·have:=(h x hx).1.tyE s_ne k hF hk
   exact ⟨this.1,.inl this.2⟩
  exact ⟨k.grow hw',.inr k⟩
 intro x hx;rcases List.mem_append.1 hx with hx|hx
 ·exact old x (List.mem_append_left _ hx)
 rcases List.mem_cons.1 hx with rfl|hx
 ·have:=ht.1.tyE s_ne ht.2 hF hk
  exact ⟨this.1,.inl this.2⟩
 exact old x (List.mem_append_right _ (List.mem_cons_of_mem _ hx))
theorem StsW.str {w0 w0' w:World} {v:Value} {svs:List StV} (h:StsW w0 w svs) (ho:OBS w0' w v svs):StR w v svs :=
 ⟨OB.read ho,fun p hp=>by
  obtain⟨x,hx,rfl⟩:=List.mem_map.1 hp
  exact (h x hx).1 _ (List.mem_singleton.2 rfl)⟩
theorem OBS.mid {w0 w:World} {po:Option Addr} {n c:Nat} {A B:List StV} {s:StV} (h:OBS w0 w (.slice po n c) (A++s :: B)):∃ g,po=some ⟨g,0,none⟩∧g<w.heap.size∧StAt w g (A.length*13) s∧∃ cur,w.heap[g]? = some (.cells cur 65):=by
 have hn:n=(A++s :: B).length:=by
  obtain⟨po,pc,e⟩:=h.form;injection e
 subst hn;obtain⟨g,o,e,hg,hat⟩:=RowE.elem StV.len h.read A.length (by simp);have hx:(A++s :: B)[A.length]'(by simp)=s:=by simp
 rw [hx] at hat;subst e;rcases h.row.2 with ⟨hv,_⟩|⟨b,cap,cur,hv,_,hb,_⟩
 ·cases hv
 injection hv with e1;injection e1 with e1;injection e1 with e2 e3;subst e2 e3;exact ⟨g,rfl,hg,fun j v hj=>by have:=hat j v hj;rwa [Nat.zero_add] at this,cur,hb⟩
def BtT (w:World) (D:List (Iv K)) (l:List St) (e:Ending) (w':World):Prop:=∃ a c vs,e = .returned (.tuple #[.slice a (l.length) c,.int .i64 0])∧StR w' (.slice a l.length c) vs∧stS vs=l.map (btS D)∧Below w.heap.size w w'
theorem between_p (D:List (Iv K)) (svs:List StV) (hgd:Good (stS svs)) (h1:0<svs.length) (h16:svs.length≤16) (hf:∀ x∈svs,(combK 2 x.s.d D).length≤10000) (w:World) (sv dv:Value) (hr:StR w sv svs) (hd:Ls w [(dv,D)]) :
  Calls prog 47 #[sv,dv] w (BtT w D (stS svs)):=by
 obtain⟨xa,xc,rfl⟩:=hr.form;obtain⟨da,dc,he,_⟩:=(hd _ (List.mem_singleton.2 rfl)).1.form;have he:dv = .slice da D.length dc:=he;subst he;have HP:=jX (pchk_c svs hgd h1 w _ hr);have HC:=jX (fun u (h:StR u (.slice xa svs.length xc) svs)=>clone_s svs u _ h.1 (by omega));have HR:=jX hr;have HD:=jX hd;have HF:=jX hf;have HE:=jX (rfl:BtT w D (stS svs)=BtT w D (stS svs));have hSl:(stS svs).length=svs.length:=by unfold stS;rw [List.length_map]
 have HSl:=jX hSl;clear hr hd hf hgd hSl;go_enter func47,ntmps47
 go_wp2_with fail;refine HP.out.mono ?_;rintro e w1 ⟨rfl,hb1⟩;dsimp only;have HB:=jX hb1;have HR:=jX (HR.out.grow hb1);have HD:=jX (HD.out.grow hb1);clear hb1 HP;go_wp2_with fail;refine (HC.out _ HR.out).mono ?_;rintro e w2 ⟨v,rfl,hv⟩;dsimp only;obtain⟨oo,oc,rfl⟩:=hv.form;have HO:=jX hv;have HW:=jX (show StsW w1 w2 svs from fun x hx=>⟨(HR.out.ls hx).grow hv.keep,.inr (HR.out.ls hx)⟩)
 clear hv HC;go_wp2_with fail;go_loopw [18] (fun c wr=>∃ (k:Nat) (us:List StV),k≤svs.length∧c = .int .i64 (k:Int)∧OBS w1 wr (.slice oo svs.length oc) (us++svs.drop k)∧StsW w1 wr (us++svs.drop k)∧stS us=((stS svs).take k).map (btS D)) (fun c _=>svs.length-(intOf c).toNat)
 case atStart=>exact ⟨0,[],Nat.zero_le _,rfl,HO.out,HW.out,rfl⟩
 case round =>
  obtain⟨k,us,hk,rfl,hov,hwt,hus⟩:=hrel;clear HO HW;have HO:=jX hov;have HW:=jX hwt;have HV:=jX hus;have hul:us.length=k:=by have:=congrArg List.length hus;unfold stS at this;simp at this;omega
  clear hov hwt hus;by_cases hlt:k<svs.length
  ·have hdr:svs.drop k=svs[k] :: svs.drop (k+1):=List.drop_eq_getElem_cons hlt
   rw [hdr] at HO HW;have hx:svs[k]∈svs:=List.getElem_mem hlt;have hlen:=HF.out _ hx;have Hlx:=jX (HW.out _ (List.mem_append_right _ (List.mem_cons_self ..))).1
   have Hstep:Hid (((stS svs).take (k+1)).map (btS D)=((stS svs).take k).map (btS D)++[btS D svs[k].s]):=jX (by
    have hl:k<(stS svs).length:=by unfold stS;rw [List.length_map];exact hlt
    have he:(stS svs)[k]=svs[k].s:=List.getElem_map ..
    rw [ycX (btS D) (stS svs) k hl,he])
   have hkc:(k:Int)<(svs.length:Int):=by omega
   obtain⟨g,rfl,hg,hat,cur,hcur⟩:=OBS.mid HO.out;have HSh:=jX (fun u v (h:Ls u [(svs[k].v,svs[k].s.d)]) (hd:Ls u [(v,D)])=>h.interT hd hlen);have Hdr:=jX hdr;rw [hul] at hat;have Hul:=jX hul;obtain⟨B,hB⟩:∃ B,svs.drop (k+1)=B:=⟨_,rfl⟩;rw [hB] at HO HW;have HB2:=jX hB;clear hB hdr hul Hdr hx hlen;generalize svs[k]=x at *;obtain⟨p,hp⟩:∃ p,k*13=p:=⟨_,rfl⟩;rw [hp] at hat;have Hp:=jX hp;have hxv:x.v = .slice x.a x.s.d.length x.c:=rfl;rw [hxv] at HSh Hlx;have HDr:=jX (HD.out.grow HO.out.keep);obtain⟨M,hM⟩:∃ M,combK 2 x.s.d D=M:=⟨_,rfl⟩;rw [hM] at HSh;have HM:=jX hM;have pd:wr.cell? ⟨g,p,none⟩=some (.slice x.a x.s.d.length x.c):=hat.d0;clear hxv hM hat hcur cur hg;go_upto_region 8 with (fail)
   refine wp_region_lit ?_;refine' yab (v:=_) (by rfl) (?ha) (fun K hK=>?ka)
   case ha=>(go_simp;try rfl)
   go_simp;refine hK _ _ ?_;clear hK K;refine' yab (v:=_) (by rfl) (?hb) (fun K hK=>?kb)
   case hb=>(go_simp;try rfl)
   go_simp;refine hK _ _ ?_;clear hK K;refine' yab (v:=_) (by rfl) (?hc) (fun K hK=>?kc)
   case hc=>(go_simp;try rfl)
   go_simp;refine hK _ _ ?_;clear hK K;refine' yab (v:=_) (by rfl) (?hd) (fun K hK=>?kd)
   case hd=>(go_simp;try rfl)
   go_simp;refine hK _ _ ?_;clear hK K;refine' yab (v:=_) (by rfl) (?he) (fun K hK=>?ke)
   case he=>(go_simp;try rfl)
   go_simp;refine hK _ _ ?_;clear hK K;refine' yab (v:=_) (by rfl) (?hf) (fun K hK=>?kf)
   case hf=>(go_simp;try rfl)
   go_simp;refine hK _ _ ?_;clear hK K;refine' yab (v:=_) (by rfl) (?hh) (fun K hK=>?kh)
   case hh=>(go_simp;try rfl)
   go_simp;refine hK _ _ ?_;clear hK K;refine' yab (v:=_) (by rfl) (?hi) (fun K hK=>?ki)
   case hi=>(go_simp;try rfl)
   go_simp;refine hK _ _ ?_;clear hK K;refine wpList_plain (by rfl) (fun K hK=>?_);refine yaf 108 #[.slice x.a x.s.d.length x.c,.slice da D.length dc] (by go_simp) ?_;refine (HSh.out _ _ Hlx.out HDr.out).mono ?_;rintro e9 w6 ⟨a1,c1,rfl,hb,hl1,ht1⟩;refine ⟨_,rfl,?_⟩;go_simp;refine hK _ _ ?_;clear hK K;have HO6:=jX (HO.out.later hb);have HW6:=jX (HW.out.grow hb);obtain⟨X,hX⟩:∃ X:StV,X=⟨a1,c1,⟨M,x.s.g,x.s.a,x.s.b⟩⟩:=⟨_,rfl⟩;have hXv:X.v = .slice a1 M.length c1:=by rw [hX];rfl
   have HXs:Hid (X.s=btS D x.s):=jX (by rw [hX,← HM.out];rfl);have HD6:Hid (Ls w6 [(X.v,X.s.d)]∧TyI w6 X.v):=jX (by rw [hX];exact ⟨hl1,ht1⟩);obtain⟨w7,eW,ho7,k7,⟨cur,hcur⟩,hg0⟩:=OBS.set0 HO6.out (t:=X) (by rw [hX];rfl);obtain⟨g',eg,hg6,hat6,cur',hcur'⟩:=OBS.mid HO6.out;injection eg with eg;injection eg with eg;subst eg;have HO7:=jX ho7;have HW7:=jX (HW6.out.put HD6.out ⟨cur,hcur⟩ hg0 HO6.out.keep k7);rw [Hul.out] at hat6 eW;rw [hp] at hat6 eW;rw [hXv] at eW;have f0:=yak hcur;have q0:w6.cell? ⟨g,p,none⟩=some (.slice x.a x.s.d.length x.c):=hat6.d0;clear hb hl1 ht1 HSh Hlx HDr HD6 HO6 HW6 hX hXv pd ho7 k7 hcur hcur' cur cur' hat6 HO HW hg0;refine' yab (v:=_) (by rfl) (?hj) (fun K hK=>?kj)
   case hj=>(go_simp;try rfl)
   go_simp;refine hK _ _ ?_;clear hK K;refine' yab (v:=_) (by rfl) (?hk) (fun K hK=>?kk)
   case hk=>(go_simp;try rfl)
   go_simp;refine hK _ _ ?_;clear hK K;go_wp2_with fail;go_roundw
   case rel =>
    refine ⟨k+1,us++[X],by omega,congrArg (Value.int .i64) (by omega),?_,?_,?_⟩
    ·rw [List.append_assoc,HB2.out];exact HO7.out
    ·rw [List.append_assoc,HB2.out];exact HW7.out
    rw [Hstep.out,← HV.out,← HXs.out];unfold stS;rw [List.map_append];rfl
   case measure=>simp [intOf];omega
  have hkn:k=svs.length:=by omega
  have hks:¬ (k:Int)<(svs.length:Int):=by omega
  have HvS:=jX (show stS us=(stS svs).map (btS D) by rw [HV.out,hkn,List.take_of_length_le (by rw [HSl.out];exact Nat.le_refl _)])
  have hdr:us++svs.drop k=us:=by rw [hkn,List.drop_length,List.append_nil]
  rw [hdr] at HO HW;have HR2:=jX (HW.out.str HO.out);have HB:=jX (HB.out.trans (Below.mono HO.out.keep HB.out.size));clear HV HO HW hdr hul hkn;go_wp2_with fail;go_ret2
  exact ⟨oo,oc,us,by rw [HSl.out];rfl,by rw [HSl.out];exact HR2.out,HvS.out,HB.out⟩
end
section
open Classical
theorem neqQ_same (a:Rat) (w:World):(binOp .neq 28 (.agg (rC a)) (.agg (rC a))).run prog w = .ok (.bool false) w:=by
 rw [← yaw];unfold rv;rw [run_neq_struct,show (10000:Nat)=9997+3 from rfl,ygw,ydT]
 rw [decide_eq_true (rfl:a=a)];rfl
theorem sameSteps_c (us vs:List StV) (n:Nat) (hu:us.length=n) (hsame:stS us=stS vs) (h16:n≤16) (w:World) (a b:Option Addr) (c d:Nat) (hr:StR w (.slice a n c) us) (hs:StR w (.slice b n d) vs) :
  Calls prog 48 #[.slice a n c,.slice b n d] w (BPost w true):=by
 have hv:vs.length=n:=by have:=congrArg List.length hsame;unfold stS at this;rw [List.length_map,List.length_map] at this;omega
 have HR:=jX hr;have HS:=jX hs;have HV:=jX hsame;have Hu:=jX hu;have Hv:=jX hv;clear hr hs hsame hu hv;have hgQ:=eqQ_g;go_enter func48,ntmps48
 go_wp2_with fail;go_loopw [5] (fun c wr=>∃ k:Nat,k≤n∧c = .int .i64 (k:Int)∧Below w.heap.size w wr) (fun c _=>n-(intOf c).toNat)
 case atStart=>exact ⟨0,Nat.zero_le _,rfl,Below.refl _ _⟩
 case round =>
  obtain⟨k,hk,rfl,hb⟩:=hrel;have HB:=jX hb;clear hb;by_cases hlt:k<n
  ·have hku:k<us.length:=by rw [Hu.out];exact hlt
   have hkv:k<vs.length:=by rw [Hv.out];exact hlt
   have hxy:us[k].s=vs[k].s:=by
    have:=congrArg (fun l:List St=>l[k]?) HV.out;unfold stS at this
    simpa [hku,hkv] using this
   obtain⟨g,o,rfl,hg,hat⟩:=StR.elem (HR.out.grow HB.out) k hku;obtain⟨g',o',rfl,hg',hat'⟩:=StR.elem (HS.out.grow HB.out) k hkv;have HL:=jX ((HR.out.grow HB.out).ls (List.getElem_mem hku));have HL':=jX ((HS.out.grow HB.out).ls (List.getElem_mem hkv));obtain⟨p,hp⟩:∃ p,o+k*13=p:=⟨_,rfl⟩;obtain⟨p',hp'⟩:∃ p',o'+k*13=p':=⟨_,rfl⟩;rw [hp] at hat;rw [hp'] at hat';have hkc:(k:Int)<(n:Int):=by omega
   generalize us[k]=x at *;generalize vs[k]=y at *;have Hat:=jX hat;have Hat':=jX hat';have Q:=jX hat.d0;have Q':=jX hat'.d0;have y2:y.s=x.s:=hxy.symm;unfold StV.v at HL HL' Q Q';rw [y2] at HL' Q';have La':Hid ((StAt wr g' p' y)→True):=jX fun _=>trivial;have HG':=jX (fun (u:World) (h:StAt u g' p' y)=>show (loadVar 28 ⟨g',p'+1,none⟩).run prog u = .ok (.agg (rC x.s.g)) u by rw [← y2];exact h.lg)
   have HA':=jX (fun (u:World) (h:StAt u g' p' y)=>show (loadVar 28 ⟨g',p'+5,none⟩).run prog u = .ok (.agg (rC x.s.a)) u by rw [← y2];exact h.la)
   have HB':=jX (fun (u:World) (h:StAt u g' p' y)=>show (loadVar 28 ⟨g',p'+9,none⟩).run prog u = .ok (.agg (rC x.s.b)) u by rw [← y2];exact h.lb)
   clear hat hat' hxy y2 La';have hNg:=neqQ_same x.s.g;have hNa:=neqQ_same x.s.a;have hNb:=neqQ_same x.s.b;go_upto_region 6 with (fail)
   refine yao (S:=fun u=>Below wr.heap.size wr u) 50 (by kernel_rfl) (by kernel_rfl) (fun _ _ d _ _ h=>by cases d<;>exact h) ?_;have hS0:=(Keep.drew [] wr).bz;generalize World.drew wr=u2 at *;refine' jG (v:=_) 0 hS0 (fun w hw=>?hsa0) (fun K hK=>?ksa0)
   case hsa0=>(go_simp;try rfl)
   go_simp;refine hK _ ?_;clear hK K;refine' jG (v:=_) 1 hS0 (fun w hw=>?hsa1) (fun K hK=>?ksa1)
   case hsa1=>(go_simp;try rfl)
   go_simp;refine hK _ ?_;clear hK K;refine' jG (v:=_) 2 hS0 (fun w hw=>?hsa2) (fun K hK=>?ksa2)
   case hsa2=>(go_simp;try rfl)
   go_simp;refine hK _ ?_;clear hK K;refine' jG (v:=_) 3 hS0 (fun w hw=>?hsa3) (fun K hK=>?ksa3)
   case hsa3=>(go_simp;try rfl)
   go_simp;refine hK _ ?_;clear hK K;refine' jG (v:=_) 4 hS0 (fun w hw=>?hsa4) (fun K hK=>?ksa4)
   case hsa4=>(have q:=(World.cell?_of_block (hw.block g hg)).trans Q.out;go_simp;try rfl)
   go_simp;refine hK _ ?_;clear hK K;refine' jG (v:=_) 5 hS0 (fun w hw=>?hsa5) (fun K hK=>?ksa5)
   case hsa5=>(go_simp;try rfl)
   go_simp;refine hK _ ?_;clear hK K;refine' jG (v:=_) 6 hS0 (fun w hw=>?hsa6) (fun K hK=>?ksa6)
   case hsa6=>(go_simp;try rfl)
   go_simp;refine hK _ ?_;clear hK K;refine' jG (v:=_) 7 hS0 (fun w hw=>?hsa7) (fun K hK=>?ksa7)
   case hsa7=>(go_simp;try rfl)
   go_simp;refine hK _ ?_;clear hK K;refine' jG (v:=_) 8 hS0 (fun w hw=>?hsa8) (fun K hK=>?ksa8)
   case hsa8=>(go_simp;try rfl)
   go_simp;refine hK _ ?_;clear hK K;refine' jG (v:=_) 9 hS0 (fun w hw=>?hsa9) (fun K hK=>?ksa9)
   case hsa9=>(have q:=(World.cell?_of_block (hw.block g' hg')).trans Q'.out;go_simp;try rfl)
   go_simp;refine hK _ ?_;clear hK K;refine jP 10 (fun K hK=>?_);refine yaf 20 #[.slice x.a x.s.d.length x.c,.slice y.a x.s.d.length y.c] (by go_simp) ?_;refine ((HL.out.grow hS0).peq_t (HL'.out.grow hS0)).mono ?_;rintro e u3 ⟨rfl,hb⟩;have hS0:=hS0.trans (Below.mono hb hS0.size);refine ⟨_,rfl,?_⟩;go_simp;refine hK _ _ hS0 ?_;clear hK K;refine' jG (v:=_) 11 hS0 (fun w hw=>?hsa11) (fun K hK=>?ksa11)
   case hsa11=>(go_simp;try rfl)
   go_simp;refine hK _ ?_;clear hK K;refine' jG (v:=_) 12 hS0 (fun w hw=>?hsa12) (fun K hK=>?ksa12)
   case hsa12=>(go_simp;try rfl)
   go_simp;refine hK _ ?_;clear hK K;refine' jG (v:=_) 13 hS0 (fun w hw=>?hsa13) (fun K hK=>?ksa13)
   case hsa13=>(go_simp;try rfl)
   go_simp;refine hK _ ?_;clear hK K;refine' jG (v:=_) 14 hS0 (fun w hw=>?hsa14) (fun K hK=>?ksa14)
   case hsa14=>(go_simp;try rfl)
   go_simp;refine hK _ ?_;clear hK K;refine' jG (v:=_) 15 hS0 (fun w hw=>?hsa15) (fun K hK=>?ksa15)
   case hsa15=>(go_simp;try rfl)
   go_simp;refine hK _ ?_;clear hK K;refine' jG (v:=_) 16 hS0 (fun w hw=>?hsa16) (fun K hK=>?ksa16)
   case hsa16=>(go_simp;try rfl)
   go_simp;refine hK _ ?_;clear hK K;refine jG (v:=.agg (rC x.s.g)) 17 hS0 (fun w hw=>yad _ _ ⟨g,p+1,none⟩ _ rfl rfl ((Hat.out.keep (hw.block g hg)).lg)) (fun K hK=>?_);go_simp;refine hK _ ?_;clear hK K;refine' jG (v:=_) 18 hS0 (fun w hw=>?hsa18) (fun K hK=>?ksa18)
   case hsa18=>(go_simp;try rfl)
   go_simp;refine hK _ ?_;clear hK K;refine' jG (v:=_) 19 hS0 (fun w hw=>?hsa19) (fun K hK=>?ksa19)
   case hsa19=>(go_simp;try rfl)
   go_simp;refine hK _ ?_;clear hK K;refine' jG (v:=_) 20 hS0 (fun w hw=>?hsa20) (fun K hK=>?ksa20)
   case hsa20=>(go_simp;try rfl)
   go_simp;refine hK _ ?_;clear hK K;refine' jG (v:=_) 21 hS0 (fun w hw=>?hsa21) (fun K hK=>?ksa21)
   case hsa21=>(go_simp;try rfl)
   go_simp;refine hK _ ?_;clear hK K;refine jG (v:=.agg (rC x.s.g)) 22 hS0 (fun w hw=>yad _ _ ⟨g',p'+1,none⟩ _ rfl rfl (HG'.out _ (Hat'.out.keep (hw.block g' hg')))) (fun K hK=>?_);go_simp;refine hK _ ?_;clear hK K;refine' jG (v:=_) 23 hS0 (fun w hw=>?hsa23) (fun K hK=>?ksa23)
   case hsa23=>(have hN:=hNg;go_simp;try rfl)
   go_simp;refine hK _ ?_;clear hK K;refine' jG (v:=_) 24 hS0 (fun w hw=>?hsa24) (fun K hK=>?ksa24)
   case hsa24=>(go_simp;try rfl)
   go_simp;refine hK _ ?_;clear hK K;refine' jG (v:=_) 25 hS0 (fun w hw=>?hsa25) (fun K hK=>?ksa25)
   case hsa25=>(go_simp;try rfl)
   go_simp;refine hK _ ?_;clear hK K;refine' jG (v:=_) 26 hS0 (fun w hw=>?hsa26) (fun K hK=>?ksa26)
   case hsa26=>(go_simp;try rfl)
   go_simp;refine hK _ ?_;clear hK K;refine' jG (v:=_) 27 hS0 (fun w hw=>?hsa27) (fun K hK=>?ksa27)
   case hsa27=>(go_simp;try rfl)
   go_simp;refine hK _ ?_;clear hK K;refine' jG (v:=_) 28 hS0 (fun w hw=>?hsa28) (fun K hK=>?ksa28)
   case hsa28=>(go_simp;try rfl)
   go_simp;refine hK _ ?_;clear hK K;refine' jG (v:=_) 29 hS0 (fun w hw=>?hsa29) (fun K hK=>?ksa29)
   case hsa29=>(go_simp;try rfl)
   go_simp;refine hK _ ?_;clear hK K;refine jG (v:=.agg (rC x.s.a)) 30 hS0 (fun w hw=>yad _ _ ⟨g,p+5,none⟩ _ rfl rfl ((Hat.out.keep (hw.block g hg)).la)) (fun K hK=>?_);go_simp;refine hK _ ?_;clear hK K;refine' jG (v:=_) 31 hS0 (fun w hw=>?hsa31) (fun K hK=>?ksa31)
   case hsa31=>(go_simp;try rfl)
   go_simp;refine hK _ ?_;clear hK K;refine' jG (v:=_) 32 hS0 (fun w hw=>?hsa32) (fun K hK=>?ksa32)
   case hsa32=>(go_simp;try rfl)
   go_simp;refine hK _ ?_;clear hK K;refine' jG (v:=_) 33 hS0 (fun w hw=>?hsa33) (fun K hK=>?ksa33)
   case hsa33=>(go_simp;try rfl)
   go_simp;refine hK _ ?_;clear hK K;refine' jG (v:=_) 34 hS0 (fun w hw=>?hsa34) (fun K hK=>?ksa34)
   case hsa34=>(go_simp;try rfl)
   go_simp;refine hK _ ?_;clear hK K;refine jG (v:=.agg (rC x.s.a)) 35 hS0 (fun w hw=>yad _ _ ⟨g',p'+5,none⟩ _ rfl rfl (HA'.out _ (Hat'.out.keep (hw.block g' hg')))) (fun K hK=>?_);go_simp;refine hK _ ?_;clear hK K;refine' jG (v:=_) 36 hS0 (fun w hw=>?hsa36) (fun K hK=>?ksa36)
   case hsa36=>(have hN:=hNa;go_simp;try rfl)
   go_simp;refine hK _ ?_;clear hK K;refine' jG (v:=_) 37 hS0 (fun w hw=>?hsa37) (fun K hK=>?ksa37)
   case hsa37=>(go_simp;try rfl)
   go_simp;refine hK _ ?_;clear hK K;refine' jG (v:=_) 38 hS0 (fun w hw=>?hsa38) (fun K hK=>?ksa38)
   case hsa38=>(go_simp;try rfl)
   go_simp;refine hK _ ?_;clear hK K;refine' jG (v:=_) 39 hS0 (fun w hw=>?hsa39) (fun K hK=>?ksa39)
   case hsa39=>(go_simp;try rfl)
   go_simp;refine hK _ ?_;clear hK K;refine' jG (v:=_) 40 hS0 (fun w hw=>?hsa40) (fun K hK=>?ksa40)
   case hsa40=>(go_simp;try rfl)
   go_simp;refine hK _ ?_;clear hK K;refine' jG (v:=_) 41 hS0 (fun w hw=>?hsa41) (fun K hK=>?ksa41)
   case hsa41=>(go_simp;try rfl)
   go_simp;refine hK _ ?_;clear hK K;refine' jG (v:=_) 42 hS0 (fun w hw=>?hsa42) (fun K hK=>?ksa42)
   case hsa42=>(go_simp;try rfl)
   go_simp;refine hK _ ?_;clear hK K;refine jG (v:=.agg (rC x.s.b)) 43 hS0 (fun w hw=>yad _ _ ⟨g,p+9,none⟩ _ rfl rfl ((Hat.out.keep (hw.block g hg)).lb)) (fun K hK=>?_);go_simp;refine hK _ ?_;clear hK K;refine' jG (v:=_) 44 hS0 (fun w hw=>?hsa44) (fun K hK=>?ksa44)
   case hsa44=>(go_simp;try rfl)
   go_simp;refine hK _ ?_;clear hK K;refine' jG (v:=_) 45 hS0 (fun w hw=>?hsa45) (fun K hK=>?ksa45)
   case hsa45=>(go_simp;try rfl)
   go_simp;refine hK _ ?_;clear hK K;refine' jG (v:=_) 46 hS0 (fun w hw=>?hsa46) (fun K hK=>?ksa46)
   case hsa46=>(go_simp;try rfl)
   go_simp;refine hK _ ?_;clear hK K;refine' jG (v:=_) 47 hS0 (fun w hw=>?hsa47) (fun K hK=>?ksa47)
   case hsa47=>(go_simp;try rfl)
   go_simp;refine hK _ ?_;clear hK K;refine jG (v:=.agg (rC x.s.b)) 48 hS0 (fun w hw=>yad _ _ ⟨g',p'+9,none⟩ _ rfl rfl (HB'.out _ (Hat'.out.keep (hw.block g' hg')))) (fun K hK=>?_);go_simp;refine hK _ ?_;clear hK K;refine' jG (v:=_) 49 hS0 (fun w hw=>?hsa49) (fun K hK=>?ksa49)
   case hsa49=>(have hN:=hNb;go_simp;try rfl)
   go_simp;refine hK _ ?_;clear hK K;refine ⟨by kernel_rfl,?_⟩;simp only [List.drop_succ_cons,List.drop_zero];have HB:=jX (HB.out.trans (Below.mono hS0 HB.out.size));clear hS0 hb;go_wp2_with fail;go_roundw
   case rel=>exact ⟨k+1,by omega,congrArg (Value.int .i64) (by omega),HB.out⟩
   case measure=>simp [intOf];omega
  have hkc:¬ ((k:Int)<(n:Int)):=by omega
  go_wp2_with fail;go_ret
  exact ⟨rfl,HB.out⟩
end
section
open Classical
theorem bt_at (D:List (Iv K)) (l:List St) (i:Nat):SubL (sAt (l.map (btS D)) i).d (sAt l i).d∧(sAt (l.map (btS D)) i).g=(sAt l i).g∧(sAt (l.map (btS D)) i).a=(sAt l i).a∧(sAt (l.map (btS D)) i).b=(sAt l i).b:=by
 unfold sAt;rw [List.getD_eq_getElem?_getD,List.getD_eq_getElem?_getD,List.getElem?_map];cases l[i]? with
 | none=>exact ⟨SubL.refl _,rfl,rfl,rfl⟩
 | some s=>exact ⟨SubL.left,rfl,rfl,rfl⟩
theorem good_bt (x:EvA) (l:List EvA):Good ((yaV l).map (btS (evD x))):=by
 have hg:=yht l;refine ⟨fun s hs=>?_,by rw [List.length_map];exact hg.le,fun s hs=>?_,fun h=>?_⟩
 ·obtain⟨t,ht,rfl⟩:=List.mem_map.1 hs
  obtain⟨h1,h2,h3,h4,h5⟩:=hg.ok t ht;obtain⟨S,k1,k2,k3⟩:=stepsOf_pts ht;refine ⟨yaq _ _ _,⟨S++evPts x,?_,fun y hy=>?_,ycJ (k3.mono fun y hy=>List.mem_append_left _ hy) ((evD_pts x).mono fun y hy=>List.mem_append_right _ hy)⟩,h3,h4,h5⟩
  ·rw [List.length_append]
   have:=yfp x;omega
  rcases List.mem_append.1 hy with hy|hy
  ·exact (k2 y hy).mono (by decide)
  exact (evPts_sm x y hy).mono (by decide)
 ·obtain⟨t,ht,rfl⟩:=List.mem_map.1 hs
  exact hg.pos t ht
 rw [List.length_map] at h;have:=hg.first h;rw [List.getElem_map];exact this
theorem bt_len (x:EvA) {l:List EvA} {s:St} (h:s∈yaV l):(combK 2 s.d (evD x)).length≤10000:=by
 obtain⟨S,k1,k2,k3⟩:=stepsOf_pts h;exact le10 (n:=16) (Few.comb (n:=8) (m:=8) ⟨S,k1,k3⟩ (evD_few x)) (yaq _ _ _) (by decide)
theorem liv_bt (x:EvA) (l:List EvA) {n:Nat} (hn:n≤4) (i:Nat):combK 3 (ybG (sAt ((yaV l).map (btS (evD x)))) n i) (ybG (sAt (yaV l)) n i)=[] :=
 sub_cov (liv_sub (StsOk.at _ (yhv l)) (StsOk.at _ (good_bt x l).ok) (fun i=>(bt_at _ _ i).1) (fun i=>(bt_at _ _ i).2.1) (fun i=>(bt_at _ _ i).2.2.1) (fun i=>(bt_at _ _ i).2.2.2) hn _ (by omega))
end
section
open Classical
theorem patternBetween_c (w:World) (v0 v1:Value) (m0:EvsArg w v0) (m1:EvArg w v1) :
  Calls prog 8 #[v0,v1] w fun e w'=>e = .returned (.bool true)∧Below w.heap.size w w':=by
 obtain⟨l,hr⟩:=m0;obtain⟨pa,pc,ev,rfl,hpt⟩:=m1;have HA:=jX hr;obtain⟨ao,ac,rfl,hl9⟩:=hr.form;have HP:=jX hpt;clear hr hpt;have HK:=jX (fun u=>known51_c u);by_cases h0:l.length=0
 ·have hi:((l.length:Int) == 0)=true:=by rw [beq_iff_eq];omega
  go_enter func8,ntmps8
  go_upto_region 1 with (fail)
  obtain⟨W,ga,hW,ega,Bga,hga,hgW,HkW⟩:=al1h w (.cells (fvcells (.slice pa ev.ps.length pc) ev).toArray 80);rw [← hW];try rw [ega]
  clear hW ega;go_wp2_with fail;refine (HK.out _).mono ?_;rintro e w1 ⟨rfl,hb⟩;dsimp only;have HB:=jX (HkW.out.bz.trans (Below.mono hb HkW.out.size));clear hb;go_wp2_with fail;refine (HK.out _).mono ?_;rintro e w2 ⟨rfl,hb⟩;dsimp only;have HB:=jX (HB.out.trans (Below.mono hb HB.out.size));clear hb;go_wp2_with fail;go_ret
  exact ⟨rfl,HB.out⟩
 have hi:((l.length:Int) == 0)=false:=by rw [beq_eq_false_iff_ne];omega
 have Hl0:=jX (show 0<l.length by omega)
 clear hl9 h0;go_enter func8,ntmps8
 go_upto_region 1 with (fail)
 obtain⟨W,ga,hW,ega,Bga,hga,hgW,HkW⟩:=al1h w (.cells (fvcells (.slice pa ev.ps.length pc) ev).toArray 80);rw [← hW];try rw [ega]
 clear hW ega;have HA:=jX (HA.out.later HkW.out.bz);have HP:=jX (HP.out.later HkW.out.bz);go_wp2_with fail;refine (HK.out _).mono ?_;rintro e w1 ⟨rfl,hb⟩;dsimp only;have HB:=jX (HkW.out.bz.trans (Below.mono hb HkW.out.size));have HA:=jX (HA.out.later hb);have HP:=jX (HP.out.later hb);have Bga:=jX ((hb.block ga (yaa Bga.out)).trans Bga.out);clear hb HK;have HS:=jX (Steps_s l w1 _ HA.out);go_wp2_with fail;refine HS.out.mono ?_;rintro e w3 ⟨xa,xc,svs,rfl,hst,hgd,hso,hln,hb⟩;dsimp only;have HB:=jX (HB.out.trans (Below.mono hb HB.out.size));have HP:=jX (HP.out.later hb);have Bga:=jX ((hb.block ga (yaa Bga.out)).trans Bga.out);have HR:=jX hst;have HG:=jX hgd;have HSo:=jX hso;have h1:0<svs.length:=by have:=Hl0.out;omega
 have h4:svs.length≤4:=by omega
 have h16:svs.length≤16:=by omega
 clear hb HS HA hst hgd hso hln hi Hl0;go_upto_region 4 with (fail)
 refine wp_region_lit ?_;refine yab (v:=.agg (fvcells (.slice pa ev.ps.length pc) ev).toArray) (by rfl) (yad _ _ ⟨ga,0,none⟩ _ rfl rfl (load_fv _ ga 0 _ ev (fun j v hj=>by rw [Nat.zero_add,yac Bga.out];exact (List.getElem?_toArray ..).trans hj))) (fun K hK=>?_);go_simp;refine hK _ _ ?_;clear hK K;obtain⟨w5,gs,e1,e2,bgs,hgs,_,hk5⟩:=al1 w3 (.cells (fvcells (.slice pa ev.ps.length pc) ev).toArray 80);refine yam (v:=.slice (some ⟨w3.heap.size,0,none⟩) 1 1) (w':=w3.alloc (.cells (fvcells (.slice pa ev.ps.length pc) ev).toArray 80)) (by rfl) (yaT 60 1 #[(0,.tmp 24)] #[(0,.agg (fvcells (.slice pa ev.ps.length pc) ev).toArray)] _ rfl (by simp only [List.map_toArray,List.map_cons,List.map_nil];rfl) (build1_ev _ _ _ _ _)) (fun K hK=>?_);rw [← e1,e2];clear e1;go_simp;refine hK _ _ ?_;clear hK K;have HS:=jX (Steps_one (evs_one bgs (HP.out.later hk5.bz)));refine wpList_plain (by rfl) (fun K hK=>?_);refine yaf 38 #[.slice (some ⟨gs,0,none⟩) 1 1] (by go_simp) ?_;refine (HS.out).mono ?_;rintro e9 w6 ⟨gy,oy,cy,da,dn,rfl,hgy,qd,hld,hb⟩;refine ⟨_,rfl,?_⟩;go_simp;refine hK _ _ ?_;clear hK K;have hb:=Below.trans hk5.bz (Below.mono hb hk5.size);have HB:=jX (HB.out.trans (Below.mono hb HB.out.size));have HR:=jX (HR.out.grow hb);have HL:=jX hld;clear hb hk5 e2 bgs hgs HS HP Bga hld;refine' yab (v:=_) (by rfl) (?hsa) (fun K hK=>?ksa)
 case hsa=>(go_simp;try rfl)
 go_simp;refine hK _ _ ?_;clear hK K;refine' yab (v:=_) (by rfl) (?hsb) (fun K hK=>?ksb)
 case hsb=>(go_simp;try rfl)
 go_simp;refine hK _ _ ?_;clear hK K;refine' yab (v:=_) (by rfl) (?hsc) (fun K hK=>?ksc)
 case hsc=>(go_simp;try rfl)
 go_simp;refine hK _ _ ?_;clear hK K;clear qd hgy;have hlen:∀ x∈svs,(combK 2 x.s.d (evD ev)).length≤10000:=fun x hx=>bt_len ev (l:=l) (by rw [← HSo.out];exact List.mem_map_of_mem hx);have C1:=jX (fun u sv dv (h:StR u sv svs) (k:Ls u [(dv,evD ev)])=>between_p (evD ev) svs HG.out h1 h16 hlen u sv dv h k);have C2:=jX (fun u sv dv (h:StR u sv svs) (k:Ls u [(dv,evD ev)])=>rbetween_c (evD ev) svs h16 hlen u sv dv h k);have HX:=jX (fun (vs:List StV) (h:stS vs=(yaV l).map (btS (evD ev))) i=>show combK 3 (ybG (sAt (stS vs)) svs.length i) (ybG (sAt (yaV l)) svs.length i)=[] by rw [h];exact liv_bt ev l h4 i)
 have HGv:=jX (good_bt ev l);have HSl:=jX (show (stS svs).length=svs.length by unfold stS;rw [List.length_map])
 generalize evD ev=D at *;clear hlen;go_wp2_with fail;refine (C1.out _ _ _ HR.out HL.out).mono ?_;rintro e w7 ⟨b1,c1,vs,rfl,hvr,hvs,hb⟩;dsimp only;have HB:=jX (HB.out.trans (Below.mono hb HB.out.size));have HR:=jX (HR.out.grow hb);have HL:=jX (HL.out.grow hb);have HV:=jX hvr;have Hvs:=jX hvs;clear hb hvr hvs C1;rw [HSl.out] at HV ⊢;go_upto_region 6 with (fail)
 refine wp_region_lit ?_;iterate 6 (first|(refine gWE (by rfl) ?_;refine ⟨?_,?_,fun K hK=>?_⟩;rotate_left;(go_simp;try rfl);go_simp;refine hK _ _ ?_;clear hK K)|(refine gWS (by rfl) (fun K hK=>?_);go_simp;refine hK _ _ ?_;clear hK K))
 refine gWC (by rfl) (fun K hK=>?_);refine yaf 49 #[.slice xa svs.length xc,.slice da D.length dn] (by go_simp) ?_;refine (C2.out _ _ _ HR.out HL.out).mono ?_;rintro e9 w8 ⟨b2,c2,us,rfl,hur,hus,hb⟩;refine ⟨_,rfl,?_⟩;go_simp;refine hK _ _ ?_;clear hK K;rw [HSl.out] at hur ⊢;have hvl:vs.length=svs.length:=by have:=congrArg List.length Hvs.out;unfold stS at this;simp at this;exact this
 have HB:=jX (HB.out.trans (Below.mono hb HB.out.size));have HR:=jX (HR.out.grow hb);have HV:=jX (HV.out.grow hb);have C5:=jX (sameSteps_c vs us svs.length hvl (by rw [Hvs.out,hus]) h16 _ b1 b2 c1 c2 HV.out hur);have Hvl:=jX hvl;clear hb hus hur HL C2 hvl;refine gWC (by rfl) (fun K hK=>?_);refine yaf 48 #[.slice b1 svs.length c1,.slice b2 svs.length c2] (by go_simp) ?_;refine (C5.out).mono ?_;rintro e9 w9 ⟨rfl,hb⟩;refine ⟨_,rfl,?_⟩;go_simp;refine hK _ _ ?_;clear hK K;have HB:=jX (HB.out.trans (Below.mono hb HB.out.size));have HR:=jX (HR.out.grow hb);have HV:=jX (HV.out.grow hb);clear hb C5;iterate 2 (first|(refine gWE (by rfl) ?_;refine ⟨?_,?_,fun K hK=>?_⟩;rotate_left;(go_simp;try rfl);go_simp;refine hK _ _ ?_;clear hK K)|(refine gWS (by rfl) (fun K hK=>?_);go_simp;refine hK _ _ ?_;clear hK K))
 rw [HSo.out] at Hvs;have C3:=jX (fun u sv (h:StR u sv vs)=>LivP.row (ygv vs (by rw [Hvs.out];exact HGv.out) (by rw [Hvl.out];exact h1) (by rw [Hvl.out];exact h4) u sv h));have C4:=jX (fun u sv (h:StR u sv svs)=>LivP.row (ygv svs HG.out h1 h4 u sv h));have HC:=jX (fun i=>HX.out vs Hvs.out i);rw [← HSo.out] at HC;rw [Hvl.out] at C3;clear HX Hvs Hvl HGv HSl HG HSo;generalize ybG (sAt (stS vs)) svs.length=F at *;generalize ybG (sAt (stS svs)) svs.length=G at *;go_wp2_with fail;refine (C3.out _ _ HV.out).mono ?_;rintro e wa ⟨g1,d1,rfl,hr1,hb⟩;dsimp only;have HB:=jX (HB.out.trans (Below.mono hb HB.out.size));have HR:=jX (HR.out.grow hb);have R1:=jX hr1;clear hb hr1 C3 HV;go_wp2_with fail;refine (C4.out _ _ HR.out).mono ?_;rintro e wb ⟨g2,d2,rfl,hr2,hb⟩;dsimp only;have HB:=jX (HB.out.trans (Below.mono hb HB.out.size));have R1:=jX (R1.out.grow hb);have R2:=jX hr2;clear hb hr2 C4 HR;go_wp2_with fail;go_loopw [13] (fun c wr=>∃ k:Nat,k≤svs.length∧c = .int .i64 (k:Int)∧Below wb.heap.size wb wr) (fun c _=>svs.length-(intOf c).toNat)
 case atStart=>exact ⟨0,Nat.zero_le _,rfl,Below.refl _ _⟩
 case round =>
  obtain⟨i,hi,rfl,hb⟩:=hrel;have HX:=jX hb;by_cases hlt:i<svs.length
  ·obtain⟨hg1,xa1,xc1,q1,hl1⟩:=(R1.out.grow hb).get hlt
   obtain⟨hg2,xa2,xc2,q2,hl2⟩:=(R2.out.grow hb).get hlt;have hic:(i:Int)<(svs.length:Int):=by omega
   have Hc:=jX (HC.out i);have Hl1:=jX hl1;have Hl2:=jX hl2;have Q1:=jX q1;have Q2:=jX q2;clear hl1 hl2 q1 q2 hb;generalize F i=L1 at *;generalize G i=L2 at *;have HCv:=jX (fun u v x (h:Ls u [(v,L2),(x,L1)])=>h.cov (List.mem_cons_self ..) (List.mem_cons_of_mem _ (List.mem_cons_self ..)));rw [decide_eq_true Hc.out] at HCv;clear Hc;go_upto_region 15 with (fail)
   refine yao (S:=fun u=>Below wr.heap.size wr u) 9 (by kernel_rfl) (by kernel_rfl) (fun _ _ d _ _ h=>by cases d<;>exact h) ?_;have hS0:=(Keep.drew [] wr).bz;generalize World.drew wr=u2 at *;refine' jG (v:=_) 0 hS0 (fun w hw=>?hsq0) (fun K hK=>?ksq0)
   case hsq0=>(go_simp;try rfl)
   go_simp;refine hK _ ?_;clear hK K;refine' jG (v:=_) 1 hS0 (fun w hw=>?hsq1) (fun K hK=>?ksq1)
   case hsq1=>(go_simp;try rfl)
   go_simp;refine hK _ ?_;clear hK K;refine' jG (v:=_) 2 hS0 (fun w hw=>?hsq2) (fun K hK=>?ksq2)
   case hsq2=>(go_simp;try rfl)
   go_simp;refine hK _ ?_;clear hK K;refine' jG (v:=_) 3 hS0 (fun w hw=>?hsq3) (fun K hK=>?ksq3)
   case hsq3=>(have q:=(World.cell?_of_block (hw.block g2 hg2)).trans Q2.out;go_simp;try rfl)
   go_simp;refine hK _ ?_;clear hK K;refine' jG (v:=_) 4 hS0 (fun w hw=>?hsq4) (fun K hK=>?ksq4)
   case hsq4=>(go_simp;try rfl)
   go_simp;refine hK _ ?_;clear hK K;refine' jG (v:=_) 5 hS0 (fun w hw=>?hsq5) (fun K hK=>?ksq5)
   case hsq5=>(go_simp;try rfl)
   go_simp;refine hK _ ?_;clear hK K;refine' jG (v:=_) 6 hS0 (fun w hw=>?hsq6) (fun K hK=>?ksq6)
   case hsq6=>(go_simp;try rfl)
   go_simp;refine hK _ ?_;clear hK K;refine' jG (v:=_) 7 hS0 (fun w hw=>?hsq7) (fun K hK=>?ksq7)
   case hsq7=>(have q:=(World.cell?_of_block (hw.block g1 hg1)).trans Q1.out;go_simp;try rfl)
   go_simp;refine hK _ ?_;clear hK K;refine jP 8 (fun K hK=>?_);refine yaf 50 #[.slice xa2 L2.length xc2,.slice xa1 L1.length xc1] (by go_simp) ?_;refine (HCv.out _ _ _ ((Hl2.out.grow hS0).one (Hl1.out.grow hS0))).mono ?_;rintro e u3 ⟨rfl,hb⟩;have hS0:=hS0.trans (Below.mono hb hS0.size);refine ⟨_,rfl,?_⟩;go_simp;refine hK _ _ hS0 ?_;clear hK K;refine ⟨by kernel_rfl,?_⟩;simp only [List.drop_succ_cons,List.drop_zero];have HX:=jX (HX.out.trans (Below.mono hS0 HX.out.size));clear hS0 hb HCv Hl1 Hl2 Q1 Q2 hg1 hg2;go_wp2_with fail;go_roundw
   case rel=>exact ⟨i+1,by omega,congrArg (Value.int .i64) (by omega),HX.out⟩
   case measure=>simp [intOf];omega
  have hic:¬ ((i:Int)<(svs.length:Int)):=by omega
  have HB:=jX (HB.out.trans (Below.mono hb HB.out.size));clear hb;go_wp2_with fail;go_ret
  exact ⟨rfl,HB.out⟩
end
end Go.Proofs.YtpgffjjpiafhpaaGreatDoor
