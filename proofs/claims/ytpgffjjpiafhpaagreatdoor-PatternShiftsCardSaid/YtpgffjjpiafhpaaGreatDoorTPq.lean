/- Parts of a proof: Va@q Vd@q Ia@q Iz@q If@q Fa@q Fb@q Ea@q Eb@q Hq@q Ed@q Eh@q Ei@q. -/
import Derived.Deep.Slices
import Derived.Lib.SmallJoins
import Derived.Test.YtpgffjjpiafhpaaGreatDoorP15
import Derived.Test.YtpgffjjpiafhpaaGreatDoorP23
import Derived.Test.YtpgffjjpiafhpaaGreatDoorP14
import Derived.Test.YtpgffjjpiafhpaaGreatDoorP19
import Derived.Test.YtpgffjjpiafhpaaGreatDoorP18
import Derived.Test.YtpgffjjpiafhpaaGreatDoorP20
import Derived.Test.YtpgffjjpiafhpaaGreatDoorP32
set_option linter.unusedVariables false
set_option linter.unusedSimpArgs false
set_option linter.unusedSectionVars false
set_option maxRecDepth 100000
set_option maxHeartbeats 8000000
namespace Go.Proofs.YtpgffjjpiafhpaaGreatDoor
open Go.RowKit Tryz
section
open Go.ChangeShapes Go.WideShapes Go.ChangeAt
theorem cells_bool:prog.cellsOf 4=1:=by kernel_rfl
section
variable {H:Type} {enc:TypeId × Value→H} {w:World} {base:Nat} {held:Bool} {fuel:Nat}
end
end
section
open Go.ChangeShapes Go.WideShapes Go.ChangeAt
theorem agg_of_cells {v:Value} {l:List Value} (h:v.cells.toList=l) (hl:l.length≠1):v = .agg l.toArray:=by
 cases v with
 | agg c=>subst h;simp [Value.cells]
 | _=>subst h;exact absurd rfl hl
end
section
open Go.ChangeShapes Go.WideShapes Go.ChangeAt
theorem cells_str:prog.cellsOf 9=1:=by kernel_rfl
theorem cells_zint:prog.cellsOf 26=2:=by kernel_rfl
theorem cells_zrat:prog.cellsOf 28=4:=by kernel_rfl
section
variable {H:Type} {enc:TypeId × Value→H} {w:World} {base:Nat} {held:Bool} {fuel:Nat}
def Wt (t:TypeId) (d:DataW H) (B:Nat):Prop:=∀ n∈d.weights prog t,n≤B
theorem wt_head {t:TypeId} {ts:List TypeId} {d:DataW H} {r:List (DataW H)} (h:(DataW.weightsEach prog (t :: ts) (d :: r)).all (· ≤ reachBytes)=true):Wt t d reachBytes:=fun n hn=>by
 have:=List.all_eq_true.1 h n (by rw [DataW.weightsEach];exact List.mem_append_left _ hn)
 simpa using this
theorem wt_tail {t:TypeId} {ts:List TypeId} {d:DataW H} {r:List (DataW H)} (h:(DataW.weightsEach prog (t :: ts) (d :: r)).all (· ≤ reachBytes)=true):(DataW.weightsEach prog ts r).all (· ≤ reachBytes)=true:=by
 rw [DataW.weightsEach,List.all_append,Bool.and_eq_true] at h;exact h.2
theorem zint_w (a b:DataW H):(DataW.agg [a,b]:DataW H).weights prog 26=a.weights prog 4++b.weights prog 9:=by
 simp [DataW.weights,DataW.weightsEach,underlying26]
theorem zrat_w (a b:DataW H):(DataW.agg [a,b]:DataW H).weights prog 28=a.weights prog 26++b.weights prog 26:=by
 simp [DataW.weights,DataW.weightsEach,underlying28]
theorem zint_trod {cs:List Value} {x:DataW H × List MemPlace} (h:DataW.trod enc prog w base (fun _=>true) held fuel 26 cs=some x):∃ (b:Bool) (s:ByteArray),cs=[.bool b,.string s]∧∀ B,Wt 26 x.1 B→s.size≤B:=by
 obtain⟨xs,n,_,rfl,hl,hlen,hf⟩:=DataW.trod_struct underlying26 h;rw [cells_zint] at hl
 match cs,hl with
 | [c0,c1],_ =>
  match xs,hlen with
  | [x0,x1],_ =>
   have h0:DataW.trod enc prog w base (fun _=>true) held n 4 (([c0,c1].drop 0).take (prog.cellsOf 4))=some x0:=hf 0 _ rfl;have h1:DataW.trod enc prog w base (fun _=>true) held n 9 (([c0,c1].drop 1).take (prog.cellsOf 9))=some x1:=hf 1 _ rfl;rw [cells_bool] at h0;rw [cells_str] at h1;obtain⟨b,e0,_⟩:=DataW.trod_bool underlying4 h0;obtain⟨s,e1,rfl,_⟩:=DataW.trod_string underlying9 h1;simp at e0 e1;refine ⟨b,s,by rw [e0,e1],fun B hB=>hB _ ?_⟩;simp only [List.map_cons,List.map_nil];rw [zint_w];exact List.mem_append_right _ (by simp [DataW.weights])
theorem zrat_trod {cs:List Value} {x:DataW H × List MemPlace} (h:DataW.trod enc prog w base (fun _=>true) held fuel 28 cs=some x):∃ (b:Bool) (s:ByteArray) (d:Bool) (t:ByteArray),cs=[.bool b,.string s,.bool d,.string t]∧∀ B,Wt 28 x.1 B→s.size≤B∧t.size≤B:=by
 obtain⟨xs,n,_,rfl,hl,hlen,hf⟩:=DataW.trod_struct underlying28 h;rw [cells_zrat] at hl
 match cs,hl with
 | [c0,c1,c2,c3],_ =>
  match xs,hlen with
  | [x0,x1],_ =>
   have h0:DataW.trod enc prog w base (fun _=>true) held n 26 (([c0,c1,c2,c3].drop 0).take (prog.cellsOf 26))=some x0:=hf 0 _ rfl;have h1:DataW.trod enc prog w base (fun _=>true) held n 26 (([c0,c1,c2,c3].drop 2).take (prog.cellsOf 26))=some x1:=hf 1 _ rfl;rw [cells_zint] at h0 h1;obtain⟨b,s,e0,g0⟩:=zint_trod h0;obtain⟨d,t,e1,g1⟩:=zint_trod h1;simp at e0 e1;refine ⟨b,s,d,t,by rw [e0.1,e0.2,e1.1,e1.2],fun B hB=>?_⟩;simp only [List.map_cons,List.map_nil,Wt] at hB;rw [zrat_w] at hB;exact ⟨g0 B fun n hn=>hB n (List.mem_append_left _ hn),g1 B fun n hn=>hB n (List.mem_append_right _ hn)⟩
end
end
section
variable {P:Program} {ops:Array Oper} {Q:Exit→Act→World→Prop} {rest:List Oper} {o:Oper} {a:Act} {w:World}
theorem gWC (hw:Region.wanted o (yielded ops a.tmps)=true)
  (h:∀ K:Act→World→Prop,(∀ a w,wpList P ops Q rest a w→K a w)→o.wp P a w K Q):wpList P ops Q (o :: rest) a w:=by
 unfold wpList;rw [if_pos hw];exact .inl (h _ fun _ _ h=>h)
theorem gWE (hw:Region.wanted o (yielded ops a.tmps)=true)
  (h:∃ v,(execOp a.eval o).run P w = .ok (.value v) w∧∀ K:Act→World→Prop,(∀ a w,wpList P ops Q rest a w→K a w)→K (a.put o.dst v) w):wpList P ops Q (o :: rest) a w:=by
 obtain⟨v,h1,h2⟩:=h;exact gWC hw fun K hK=>ybH v w h1 (h2 K hK)
theorem gWS (hw:Region.wanted o (yielded ops a.tmps)=false)
  (h:∀ K:Act→World→Prop,(∀ a w,wpList P ops Q rest a w→K a w)→K (a.put o.dst undef) w):wpList P ops Q (o :: rest) a w:=by
 unfold wpList;rw [hw];exact h _ fun _ _ h=>h
end
section
open Classical
section
variable {k:Nat} {q:Rat} (hk:k≤900) (hq:FitQ 24 q)
include hk hq
theorem mvB_le {a b:Bd K} (ha:Sm k a.pt) (hb:Sm k b.pt):(⟨mvK q a.pt,a.beh⟩:Bd K)≤⟨mvK q b.pt,b.beh⟩↔a≤b:=by
 rw [Bd.le_def,Bd.le_def];dsimp only;rw [mvK_lt hk hq ha hb,mvK_eq hk hq ha hb]
end
end
section
open Classical
theorem max_le {x:Bd K}:∀ l:List (Bd K),(∀ c∈l,x<c)∨∃ c∈l,c≤x∧∀ d∈l,d≤x→d≤c
 | []=>.inl (by simp)
 | e :: l=>by
  rcases max_le (x:=x) l with h|⟨c,hc,h1,h2⟩
  ·by_cases he:e≤x
   ·refine .inr ⟨e,by simp,he,fun d hd hx=>?_⟩
    rcases List.mem_cons.1 hd with rfl|hd
    ·grind
    have:=h d hd;grind
   refine .inl fun c hc=>?_;rcases List.mem_cons.1 hc with rfl|hc
   ·grind
   exact h c hc
  by_cases he:e≤x∧c≤e
  ·refine .inr ⟨e,by simp,he.1,fun d hd hx=>?_⟩
   rcases List.mem_cons.1 hd with rfl|hd
   ·grind
   have:=h2 d hd hx;grind
  refine .inr ⟨c,by simp [hc],h1,fun d hd hx=>?_⟩;rcases List.mem_cons.1 hd with rfl|hd
  ·grind
  exact h2 d hd hx
theorem uniqueS {S:List K} {l m:List (Iv K)} (hl:Norm l) (hm:Norm m) (pl:PtsIn S l) (pm:PtsIn S m) (h:∀ x:Bd K,x.pt∈S→hasL l x=hasL m x):l=m:=by
 have el:EndsOf (sortS S) l:=⟨sortS_ord _,fun i hi=>ydK.2 (pl i hi).1,fun i hi=>ydK.2 (pl i hi).2⟩;have em:EndsOf (sortS S) m:=⟨sortS_ord _,fun i hi=>ydK.2 (pm i hi).1,fun i hi=>ydK.2 (pm i hi).2⟩;refine yfX hl hm fun x=>?_;rcases max_le (x:=x) (bor (sortS S)) with hx|⟨c,hc,h1,h2⟩
 ·rw [el.below hx,em.below hx]
 have hj:∀ d∈bor (sortS S),d≤x↔d≤c:=fun d hd=>⟨h2 d hd,fun hd=>by grind⟩;rw [el.same hj,em.same hj];exact h c (ydK.1 (ydn.1 hc))
theorem mvK_swap {k:Nat} {x:K} {a b:Rat} (h:Sm k x) (hk:k≤900) (ha:FitQ 24 a) (hb:FitQ 24 b):mvK b (mvK a x)=mvK a (mvK b x):=by
 refine Subtype.ext ?_;rw [ybA (yeq h (by omega) ha) (by omega) hb,ybA h (by omega) ha,ybA (yeq h (by omega) hb) (by omega) ha,ybA h (by omega) hb];unfold mvQ;have e:x.1.p+a+b=x.1.p+b+a:=by grind
 dsimp only;rw [e]
section
variable {k:Nat} {q:Rat} (hk:k≤900) (hq:FitQ 24 q)
include hk hq
theorem mvB_has {i:Iv K} {x:Bd K} (hi:SmI k i) (hx:Sm k x.pt):(mvI q i).has (mvB q x)=i.has x:=by
 unfold Iv.has mvI mvB;rw [Bool.eq_iff_iff,decide_eq_true_iff,decide_eq_true_iff];exact and_congr (mvB_le hk hq (a:=i.f) (b:=x) hi.1 hx) (yhb hk hq (a:=x) (b:=i.l) hx hi.2)
theorem hasL_mv {x:Bd K} (hx:Sm k x.pt):∀ {l:List (Iv K)},(∀ i∈l,SmI k i)→hasL (l.map (mvI q)) (mvB q x)=hasL l x
 | [],_=>rfl
 | i :: l,h=>by
  rw [List.map_cons,yay,yay,mvB_has hk hq (h i (List.mem_cons_self ..)) hx,hasL_mv hx fun j hj=>h j (List.mem_cons_of_mem _ hj)]
theorem comb_mv {op:Int} {a b:List (Iv K)} (ha:∀ i∈a,SmI k i) (hb:∀ i∈b,SmI k i):combK op (a.map (mvI q)) (b.map (mvI q))=(combK op a b).map (mvI q):=by
 have hS:∀ x∈ptsL (a++b),Sm k x:=fun x hx=>by
  obtain⟨j,hj,h⟩:=ybU.1 hx
  have hj:SmI k j:=by
   rcases List.mem_append.1 hj with hj|hj
   ·exact ha j hj
   exact hb j hj
  rcases h with rfl|rfl
  ·exact hj.1
  exact hj.2
 have mvp:∀ {l:List (Iv K)},PtsIn (ptsL (a++b)) l→PtsIn ((ptsL (a++b)).map (mvK q)) (l.map (mvI q)):=fun h i hi=>by
  obtain⟨j,hj,rfl⟩:=List.mem_map.1 hi;exact ⟨List.mem_map_of_mem (h j hj).1,List.mem_map_of_mem (h j hj).2⟩
 have pa:PtsIn (ptsL (a++b)) a:=(PtsIn.self (a++b)).sub fun i hi=>List.mem_append_left _ hi;have pb:PtsIn (ptsL (a++b)) b:=(PtsIn.self (a++b)).sub fun i hi=>List.mem_append_right _ hi;refine uniqueS (S:=(ptsL (a++b)).map (mvK q)) (yaq _ _ _) (norm_mv hk hq (yeV ha hb) (yaq _ _ _)) (ycJ (mvp pa) (mvp pb)) (mvp (ycJ pa pb)) ?_;intro x hx;obtain⟨y,hy,hyx⟩:=List.mem_map.1 hx
 have ex:x=mvB q ⟨y,x.beh⟩:=by
  unfold mvB;dsimp only;rw [hyx]
 rw [ex,combK_has,hasL_mv hk hq (hS y hy) ha,hasL_mv hk hq (hS y hy) hb,hasL_mv hk hq (hS y hy) (yeV ha hb),combK_has]
theorem normK_mv {a:List (Iv K)} (ha:∀ i∈a,SmI k i):normK (a.map (mvI q))=(normK a).map (mvI q):=comb_mv hk hq ha (b:=[]) (by simp)
theorem okI_mv {i:Iv K} (hi:SmI k i):okI (mvI q i)=okI i:=by
 unfold okI;rw [Bool.eq_iff_iff,decide_eq_true_iff,decide_eq_true_iff];exact yhb hk hq (a:=i.f) (b:=i.l) hi.1 hi.2
end
theorem eroI_mv {k:Nat} {q s:Rat} (hk:k≤800) (hq:FitQ 24 q) (hs:FitQ 24 s) {i:Iv K} (h:SmI k i):eroI q (mvI s i)=mvI s (eroI q i):=by
 unfold eroI mvI mvB;dsimp only;rw [mvK_swap h.2 (by omega) hs hq.neg]
theorem eroL_mv {k:Nat} {q s:Rat} (hk:k≤800) (hq:FitQ 24 q) (hs:FitQ 24 s):∀ {l:List (Iv K)},(∀ i∈l,SmI k i)→eroL q (l.map (mvI s))=(eroL q l).map (mvI s)
 | [],_=>rfl
 | i :: l,h=>by
  have hi:=h i (List.mem_cons_self ..);have ih:=eroL_mv hk hq hs (l:=l) fun j hj=>h j (List.mem_cons_of_mem _ hj);unfold eroL at ih ⊢;rw [List.map_cons,List.map_cons,List.map_cons,List.filter_cons,List.filter_cons,eroI_mv hk hq hs hi,okI_mv (k:=k+25) (by omega) hs (eroI_sm hi (by omega) hq)];cases okI (eroI q i) with
  | false=>rw [if_neg (by simp),if_neg (by simp),ih]
  | true=>rw [if_pos rfl,if_pos rfl,ih,List.map_cons]
theorem eroK_mv {k:Nat} {q s:Rat} (hk:k≤800) (hq:FitQ 24 q) (hs:FitQ 24 s) {l:List (Iv K)} (h:∀ i∈l,SmI k i):eroK q (l.map (mvI s))=(eroK q l).map (mvI s):=by
 unfold eroK;rw [eroL_mv hk hq hs h,normK_mv (k:=k+25) (by omega) hs (eroL_sm h (by omega) hq)]
theorem swpL_mv {k:Nat} {a b s:Rat} (hk:k≤800) (ha:FitQ 24 a) (hb:FitQ 24 b) (hs:FitQ 24 s) {l:List (Iv K)} (h:∀ i∈l,SmI k i):swpL a b (l.map (mvI s))=(swpL a b l).map (mvI s):=by
 unfold swpL;rw [List.map_map,List.map_map];refine List.map_congr_left fun i hi=>?_;have hi:=h i hi;unfold Function.comp swpI mvI mvB;dsimp only;rw [mvK_swap hi.1 (by omega) hs ha,mvK_swap hi.2 (by omega) hs hb]
theorem swpK_mv {k:Nat} {a b s:Rat} (hk:k≤800) (ha:FitQ 24 a) (hb:FitQ 24 b) (hs:FitQ 24 s) {l:List (Iv K)} (h:∀ i∈l,SmI k i):swpK a b (l.map (mvI s))=(swpK a b l).map (mvI s):=by
 unfold swpK;rw [swpL_mv hk ha hb hs h,normK_mv (k:=k+25) (by omega) hs (swpL_sm h (by omega) ha hb)]
section
variable {k:Nat} (hk:k≤800)
include hk
end
end
section
open Classical
section
variable {s:Nat→St} (h:StOk s)
include h
end
section
variable {s:Nat→St} (h:∀ i,Few 16 (s i).d)
include h
end
section
variable {s:Nat→St} (h:∀ i,Few 16 (s i).d)
include h
end
section
variable {s t:Nat→St} (h:StOk s) {q:Rat} (hq:FitQ 24 q)
 (hd:∀ i,(t i).d=(s i).d.map (mvI q)) (hg:∀ i,(t i).g=(s i).g) (ha:∀ i,(t i).a=(s i).a) (hb:∀ i,(t i).b=(s i).b)
include h hq hd hg ha hb
theorem rch_shift:∀ i,i≤4→rchS t i=(rchS s i).map (mvI q)
 | 0,_=>by
  unfold rchS;rw [hd,hg,eroK_mv (k:=28) (by omega) (ycG (h.g 0)) hq (h.sm 0)]
 | i+1,hi=>by
  have e1:eroK (t (i+1)).g (t (i+1)).d=(eroK (s (i+1)).g (s (i+1)).d).map (mvI q):=by
   rw [hd,hg,eroK_mv (k:=28) (by omega) (ycG (h.g (i+1))) hq (h.sm (i+1))]
  have hr:=rch_sm h i (by omega)
  have e2:((rchS s i).map (mvI q)).map (mvI (s i).g)=((rchS s i).map (mvI (s i).g)).map (mvI q):=by
   rw [List.map_map,List.map_map];refine List.map_congr_left fun j hj=>?_;have hj:=hr j hj;unfold Function.comp mvI;dsimp only;rw [mvK_swap hj.1 (by omega) hq (ycG (h.g i)),mvK_swap hj.2 (by omega) hq (ycG (h.g i))]
  have hm:∀ j∈(rchS s i).map (mvI (s i).g),SmI (78+50*i) j:=fun j hj=>by
   obtain⟨j',hj',rfl⟩:=List.mem_map.1 hj;exact (mvI_sm (hr j' hj') (by omega) (ycG (h.g i))).mono (by omega)
  have e3:swpK (t (i+1)).a (t (i+1)).b ((rchS t i).map (mvI (t i).g))=(swpK (s (i+1)).a (s (i+1)).b ((rchS s i).map (mvI (s i).g))).map (mvI q):=by
   rw [rch_shift i (by omega),hg,ha,hb,e2,swpK_mv (by omega) (ycG (h.a (i+1))) (ycG (h.b (i+1))) hq hm]
  show combK 2 _ _=_
  rw [e1,e3,comb_mv (k:=103+50*i) (by omega) hq]
  ·rfl
  ·exact fun j hj=>(ydB (eroL_sm (h.sm (i+1)) (by omega) (ycG (h.g (i+1)))) j hj).mono (by omega)
  exact fun j hj=>(ydB (swpL_sm hm (by omega) (ycG (h.a (i+1))) (ycG (h.b (i+1)))) j hj).mono (by omega)
theorem liv_shift {n:Nat} (hn:n≤4):∀ j,j≤4→livS t n j=(livS s n j).map (mvI q)
 | 0,_=>rch_shift h hq hd hg ha hb (n-1) (by omega)
 | j+1,hj=>by
  show combK 2 _ _=(combK 2 _ _).map _
  have hl:=yfL h hn j (by omega);rw [rch_shift h hq hd hg ha hb (n-2-j) (by omega),liv_shift hn j (by omega),ha,hb,hg,swpK_mv (k:=253+25*j) (by omega) (yej (h.b (n-2-j+1)) (h.g (n-2-j))).neg (yej (h.a (n-2-j+1)) (h.g (n-2-j))).neg hq hl,comb_mv (k:=253+25*j+25) (by omega) hq]
  ·exact fun x hx=>(rch_sm h (n-2-j) (by omega) x hx).mono (by omega)
  exact ydB (swpL_sm hl (by omega) (yej (h.b (n-2-j+1)) (h.g (n-2-j))).neg (yej (h.a (n-2-j+1)) (h.g (n-2-j))).neg)
end
section
variable {s t:Nat→St} (h:StOk s) (k:StOk t)
 (hd:∀ i,SubL (t i).d (s i).d) (hg:∀ i,(t i).g=(s i).g) (ha:∀ i,(t i).a=(s i).a) (hb:∀ i,(t i).b=(s i).b)
include h k hd hg ha hb
end
end
section
open Classical
open Go.ChangeShapes Go.WideShapes Go.ChangeAt
structure RawF where
 a1:Bool
 a2:ByteArray
 a3:Bool
 a4:ByteArray
def RawF.C (x:RawF):Array Value:=#[.bool x.a1,.string x.a2,.bool x.a3,.string x.a4]
def RawF.v (x:RawF):Value:=.agg x.C
def RawF.sz (x:RawF) (k:Nat):Prop:=x.a2.size≤k∧x.a4.size≤k
def RFArg (_:World) (v:Value):Prop:=∃ x:RawF,v=x.v∧x.sz 140737488351232
theorem RFArg_open {H:Type} {enc:TypeId × Value→H} {W:World} {v:Value} {base:Nat} {d:DataW H} {p:List MemPlace} (hv:Value.okWide prog W .any base 28 v)
  (h:∃ m,DataW.trod enc prog W 0 (fun _=>true) true m 28 v.cells.toList=some (d,p)) (hw:Wt 28 d reachBytes):RFArg W v:=by
 obtain⟨m,hm⟩:=h;obtain⟨b,s,c,t,ha,hs⟩:=zrat_trod hm;exact ⟨⟨b,s,c,t⟩,agg_of_cells ha (by simp),hs _ hw⟩
noncomputable def RawF.ok (x:RawF):Bool:=decide (x.a2.size+x.a4.size≤8)&&chkQ x.a1 x.a2 x.a3 x.a4
theorem dn_fit {d:Nat} (h:(dnS d).size≤8):Fit 8 (d:Int):=by
 unfold dnS at h;split at h
 ·rename_i he
  subst he;exact (ybw (n:=1) (by decide)).2.mono (by decide)
 exact h
theorem RawF.ok_some {x:RawF} (h:x.ok=true):∃ q:Rat,FitQ 8 q∧x.C=rC q:=by
 unfold RawF.ok at h;rw [Bool.and_eq_true,decide_eq_true_iff] at h;obtain⟨q,h1,h2,h3,h4⟩:=ydd.1 h.2;refine ⟨q,⟨?_,dn_fit ?_⟩,?_⟩
 ·unfold Fit
  rw [← h2];omega
 ·rw [← h4];omega
 unfold RawF.C;rw [h1,h2,h3,h4];rfl
theorem load_rawF {w:World} {g:Nat} {x:RawF} (h:w.heap[g]? = some (.cells x.C 28)):(loadVar 28 ⟨g,0,none⟩).run prog w = .ok (.agg x.C) w:=by
 obtain⟨ie,hie,hs⟩:=infoRat;exact Go.Lib.rl_loadVar_cells 28 ie hie isAgg28 g 0 x.C.toList (by rw [hs];rfl) w (fun k v hk=>by rw [Nat.zero_add,yac h];exact (Array.getElem?_toList ..).symm.trans hk)
theorem fraction_c (x:RawF) (hs:x.sz 140737488351232) (w:World):Calls prog 37 #[x.v] w fun e w'=>e = .returned (.bool x.ok)∧Keep [] w w':=by
 have w1:IntKind.i64.wrap ((x.a2.size:Int)+(x.a4.size:Int))=(x.a2.size:Int)+(x.a4.size:Int):=by
  unfold RawF.sz at hs;exact IntWalk.i64_in _ (by omega)
 clear hs;unfold RawF.v;unfold RawF.ok;obtain⟨a1,a2,a3,a4⟩:=x;dsimp only at w1 ⊢;by_cases h8:a2.size+a4.size≤8
 ·have hd:((a2.size:Int)+(a4.size:Int))≤8:=by omega
  have HC:=jX (qchk_c a1 a2 a3 a4 (by omega) (by omega));rw [decide_eq_true h8,Bool.true_and];clear h8;generalize chkQ a1 a2 a3 a4=r at *;have HL:=jX (fun (u:World) (g:Nat)=>load_rawF (w:=u) (g:=g) (x:=⟨a1,a2,a3,a4⟩));rw [show RawF.C ⟨a1,a2,a3,a4⟩ = #[.bool a1,.string a2,.bool a3,.string a4] from rfl] at HL ⊢
  go_enter func37,ntmps37
  go_upto_region 1 with (fail)
  obtain⟨W,ga,hW,ega,Bga,hga,hgW,HkW⟩:=al1h w (.cells #[.bool a1,.string a2,.bool a3,.string a4] 28);rw [← hW];try rw [ega]
  clear hW ega;have pga:=yac Bga.out;refine wp_region_lit ?_;iterate 11 (first|(refine gWE (by rfl) ?_;refine ⟨?_,?_,fun K hK=>?_⟩;rotate_left;(go_simp;try rfl);go_simp;refine hK _ _ ?_;clear hK K)|(refine gWS (by rfl) (fun K hK=>?_);go_simp;refine hK _ _ ?_;clear hK K))
  refine gWE (by rfl) ⟨.agg #[.bool a1,.string a2,.bool a3,.string a4],yad _ _ ⟨ga,0,none⟩ _ rfl rfl (HL.out _ _ Bga.out),fun K hK=>?_⟩;go_simp;refine hK _ _ ?_;clear hK K;refine gWC (by rfl) (fun K hK=>?_);refine yaf 103 #[.agg #[.bool a1,.string a2,.bool a3,.string a4]] (by go_simp) ?_;refine (HC.out _).mono ?_;rintro e9 w4 ⟨rfl,hk⟩;refine ⟨_,rfl,?_⟩;go_simp;refine hK _ _ ?_;clear hK K;have HK:=jX (HkW.out.tz hk);clear hk HC HL;have e1:errF true = .int .i64 0:=rfl;have e2:errF false = .int .i64 5:=rfl;cases r
  ·rw [e2]
   iterate 2 (first|(refine gWE (by rfl) ?_;refine ⟨?_,?_,fun K hK=>?_⟩;rotate_left;(go_simp;try rfl);go_simp;refine hK _ _ ?_;clear hK K)|(refine gWS (by rfl) (fun K hK=>?_);go_simp;refine hK _ _ ?_;clear hK K))
   go_wp2_with fail;go_ret
   exact ⟨rfl,HK.out⟩
  rw [e1];iterate 2 (first|(refine gWE (by rfl) ?_;refine ⟨?_,?_,fun K hK=>?_⟩;rotate_left;(go_simp;try rfl);go_simp;refine hK _ _ ?_;clear hK K)|(refine gWS (by rfl) (fun K hK=>?_);go_simp;refine hK _ _ ?_;clear hK K))
  go_wp2_with fail;go_ret
  exact ⟨rfl,HK.out⟩
 have hd:¬ ((a2.size:Int)+(a4.size:Int))≤8:=by omega
 rw [decide_eq_false h8,Bool.false_and];clear h8;rw [show RawF.C ⟨a1,a2,a3,a4⟩ = #[.bool a1,.string a2,.bool a3,.string a4] from rfl]
 go_enter func37,ntmps37
 go_upto_region 1 with (fail)
 obtain⟨W,ga,hW,ega,Bga,hga,hgW,HkW⟩:=al1h w (.cells #[.bool a1,.string a2,.bool a3,.string a4] 28);rw [← hW];try rw [ega]
 clear hW ega;have pga:=yac Bga.out;go_wp2_with fail;go_ret
 exact ⟨rfl,HkW.out⟩
noncomputable def RawR.ok (x:RawR):Bool:=decide (x.a2.size+x.a4.size≤8)&&(decide (x.b2.size+x.b4.size≤8)&&decide x.isK)
theorem RawR.ok_some {x:RawR} (h:x.ok=true):∃ t:K,Sm 8 t∧x.cells.toArray=kC t:=by
 unfold RawR.ok at h;simp only [Bool.and_eq_true,decide_eq_true_iff] at h;obtain⟨h1,h2,q,hq,rfl⟩:=h
 have f:FitR 8 q:=by
  refine ⟨⟨?_,dn_fit ?_⟩,⟨?_,dn_fit ?_⟩⟩
  ·unfold Fit;exact Nat.le_trans (Nat.le_add_right _ _) h1
  ·exact Nat.le_trans (Nat.le_add_left _ _) h1
  ·unfold Fit;exact Nat.le_trans (Nat.le_add_right _ _) h2
  exact Nat.le_trans (Nat.le_add_left _ _) h2
 exact ⟨⟨q,hq,f.1.mono (by decide),f.2.mono (by decide)⟩,f,rfl⟩
end
section
open Classical
theorem tyO_of {w0 w:World} {v:Value} {l:List (Iv K)} (h:OI_ w0 w v l):TyI w v:=fun g hg=>by
 rcases h.row.2 with ⟨hv,_⟩|⟨b,cap,cur,hv,_,hb,_⟩
 ·rw [hv] at hg;cases hg
 rw [hv] at hg;injection hg with hg;subst hg;exact ⟨cur,hb⟩
theorem shift_pT (l:List (Iv K)) (q:Rat) (k0:Nat) (hk0:k0≤900) (hsm:∀ i∈l,SmI k0 i) (hq:FitQ 24 q) (w:World) (sv:Value) (hr:IvR w sv l) (h9:l.length≤10000) :
  Calls prog 39 #[sv,rv q] w fun e w'=>∃ v,e = .returned v∧IvR w' v (l.map (mvI q))∧Keep [] w w'∧TyI w' v:=by
 have HCl:=jX (fun u (hu:Keep [] w u)=>clone_c l u sv (hr.later hu) (by omega));have HS:=jX (fun (x:K) (hx:Sm k0 x)=>ydp hx (by omega) hq);have HSm:=jX hsm;obtain⟨ao,ac,rfl,_⟩:=hr.form;clear hr hq hsm;rw [yaw] at *;go_enter func39,ntmps39
 go_upto_region 1 with (fail)
 obtain⟨W,ga,hW,ega,Bga,hga,hgW,HkW⟩:=al1h w (.cells (rC q) 28);rw [← hW];try rw [ega]
 clear hW ega;go_wp2_with fail;refine (HCl.out W HkW.out).mono ?_;rintro e w1 ⟨v,rfl,hv⟩;dsimp only;obtain⟨oo,oc,rfl⟩:=hv.form;have HO1:=jX hv;clear hv HCl;go_wp2_with fail;go_loopw [11] (fun c wr=>∃ k:Nat,k≤l.length∧c = .int .i64 (k:Int)∧OI_ W wr (.slice oo l.length oc) ((l.take k).map (mvI q)++l.drop k)) (fun c _=>l.length-(intOf c).toNat)
 case atStart=>exact ⟨0,Nat.zero_le _,rfl,HO1.out⟩
 case round =>
  obtain⟨k,hk,rfl,hov⟩:=hrel;have HO:=jX hov;by_cases hlt:k<l.length
  ·have hd:l.drop k=l[k] :: l.drop (k+1):=List.drop_eq_getElem_cons hlt
   have hs:=HSm.out l[k] (List.getElem_mem hlt);have Hstep:=jX (congrArg (· ++ l.drop (k+1)) (ycX (mvI q) l k hlt));rw [hd] at hov HO;have hal:((l.take k).map (mvI q)).length=k:=by rw [List.length_map,List.length_take];omega
   obtain⟨g,rfl,hg,hgb,hat,_⟩:=hov.mid;rw [hal] at hat;generalize l[k]=s at *;have Hal:=jX hal;generalize (l.take k).map (mvI q)=A at *;obtain⟨D,hD⟩:∃ D,l.drop (k+1)=D:=⟨_,rfl⟩;rw [hD] at Hstep HO;have HD:=jX hD;clear hov hd hal hD;obtain⟨p,hp⟩:∃ p,k*20=p:=⟨_,rfl⟩;rw [hp] at hat;have Hp:=jX hp;have Bgr:=jX ((HO.out.keep).heap Bga.out (by simp));have HXf:Hid (∀ u,Keep [] wr u→(loadVar 30 ⟨g,p,none⟩).run prog u = .ok (.agg (kC s.f.pt)) u):=fun u hu=>yaL u g p _ (hat.keep (hu.block g hg (by simp))).frm;have HXt:Hid (∀ u,Keep [] wr u→(loadVar 30 ⟨g,p+9,none⟩).run prog u = .ok (.agg (kC s.l.pt)) u):=fun u hu=>yaL u g (p+9) _ (hat.keep (hu.block g hg (by simp))).upto;have HXq:Hid (∀ u,Keep [] wr u→(loadVar 28 ⟨ga,0,none⟩).run prog u = .ok (.agg (rC q)) u):=fun u hu=>ybu (hu.heap Bgr.out (by simp));have H1:=jX (HS.out s.f.pt hs.1);have H2:=jX (HS.out s.l.pt hs.2);have F1:=jX (ybm (mvK q s.f.pt));have F2:=jX (ybm (mvK q s.l.pt));have HSet:=jX (fun u n c (h:OI_ W u (.slice (some ⟨g,0,none⟩) n c) (A++s :: D))=>OI_.setm (s:=s) (t:=mvI q s) rfl rfl h);have HMid:=jX (fun u c (h:OI_ W u (.slice (some ⟨g,0,none⟩) l.length c) (A++s :: D))=>OI_.mid h);rw [Hal.out] at HSet HMid;rw [hp] at HSet HMid;have e1:kcells (mvI q s).f.pt.1=(kC (mvK q s.f.pt)).toList:=rfl;have e2:kcells (mvI q s).l.pt.1=(kC (mvK q s.l.pt)).toList:=rfl;rw [e1,e2] at HSet;clear e1 e2 hat hs;generalize mvI q s=t at *;generalize kC (mvK q s.f.pt)=M1 at *;generalize kC (mvK q s.l.pt)=M2 at *;generalize kC s.f.pt=F at *;generalize kC s.l.pt=L at *;go_wp2_with fail;have hkc:(k:Int)<(l.length:Int):=by omega
   refine yek (S:=fun u=>Keep [] wr u) 21 20 (by kernel_rfl) (by kernel_rfl) (fun _ _ d _ _ h=>by cases d<;>exact h) ?_;have hS0:=Keep.drew [] wr;generalize World.drew wr=u at *;refine' yaQ (v:=_) 0 (by rfl) (by decide) (by decide) (by kernel_rfl) (by kernel_rfl) (by rfl) hS0 (fun w=>?ha0) (fun K hK=>?ka0)
   case ha0=>(go_simp;try rfl)
   go_simp;refine hK _ ?_;clear hK K;refine' yaQ (v:=_) 1 (by rfl) (by decide) (by decide) (by kernel_rfl) (by kernel_rfl) (by rfl) hS0 (fun w=>?hb1) (fun K hK=>?kb1)
   case hb1=>(go_simp;try rfl)
   go_simp;refine hK _ ?_;clear hK K;refine' yaQ (v:=_) 2 (by rfl) (by decide) (by decide) (by kernel_rfl) (by kernel_rfl) (by rfl) hS0 (fun w=>?hc2) (fun K hK=>?kc2)
   case hc2=>(go_simp;try rfl)
   go_simp;refine hK _ ?_;clear hK K;refine' yaQ (v:=_) 3 (by rfl) (by decide) (by decide) (by kernel_rfl) (by kernel_rfl) (by rfl) hS0 (fun w=>?hd3) (fun K hK=>?kd3)
   case hd3=>(go_simp;try rfl)
   go_simp;refine hK _ ?_;clear hK K;refine' yaQ (v:=_) 4 (by rfl) (by decide) (by decide) (by kernel_rfl) (by kernel_rfl) (by rfl) hS0 (fun w=>?he4) (fun K hK=>?ke4)
   case he4=>(go_simp;try rfl)
   go_simp;refine hK _ ?_;clear hK K;refine' yaQ (v:=_) 5 (by rfl) (by decide) (by decide) (by kernel_rfl) (by kernel_rfl) (by rfl) hS0 (fun w=>?hf5) (fun K hK=>?kf5)
   case hf5=>(go_simp;try rfl)
   go_simp;refine hK _ ?_;clear hK K;refine' yaQ (v:=_) 6 (by rfl) (by decide) (by decide) (by kernel_rfl) (by kernel_rfl) (by rfl) hS0 (fun w=>?hg6) (fun K hK=>?kg6)
   case hg6=>(go_simp;try rfl)
   go_simp;refine hK _ ?_;clear hK K;refine' yaQ (v:=_) 7 (by rfl) (by decide) (by decide) (by kernel_rfl) (by kernel_rfl) (by rfl) hS0 (fun w=>?hh7) (fun K hK=>?kh7)
   case hh7=>(go_simp;try rfl)
   go_simp;refine hK _ ?_;clear hK K;refine ycI (v:=.agg F) 8 (by rfl) (by decide) (by decide) (by kernel_rfl) (by kernel_rfl) (by kernel_rfl) (by rfl) hS0 (fun w hw=>yad _ _ ⟨g,p,none⟩ _ rfl rfl (HXf.out w hw)) (fun K hK=>?_);go_simp;refine hK _ ?_;clear hK K;refine ycI (v:=.agg (rC q)) 9 (by rfl) (by decide) (by decide) (by kernel_rfl) (by kernel_rfl) (by kernel_rfl) (by rfl) hS0 (fun w hw=>yad _ _ ⟨ga,0,none⟩ _ rfl rfl (HXq.out w hw)) (fun K hK=>?_);go_simp;refine hK _ ?_;clear hK K;refine' yaQ (v:=_) 11 (by rfl) (by decide) (by decide) (by kernel_rfl) (by kernel_rfl) (by rfl) hS0 (fun w=>?hi11) (fun K hK=>?ki11)
   case hi11=>(go_simp;try rfl)
   go_simp;refine hK _ ?_;clear hK K;refine' yaQ (v:=_) 12 (by rfl) (by decide) (by decide) (by kernel_rfl) (by kernel_rfl) (by rfl) hS0 (fun w=>?hj12) (fun K hK=>?kj12)
   case hj12=>(go_simp;try rfl)
   go_simp;refine hK _ ?_;clear hK K;refine' yaQ (v:=_) 13 (by rfl) (by decide) (by decide) (by kernel_rfl) (by kernel_rfl) (by rfl) hS0 (fun w=>?hk13) (fun K hK=>?kk13)
   case hk13=>(go_simp;try rfl)
   go_simp;refine hK _ ?_;clear hK K;refine' yaQ (v:=_) 14 (by rfl) (by decide) (by decide) (by kernel_rfl) (by kernel_rfl) (by rfl) hS0 (fun w=>?hl14) (fun K hK=>?kl14)
   case hl14=>(go_simp;try rfl)
   go_simp;refine hK _ ?_;clear hK K;refine ycI (v:=.agg L) 15 (by rfl) (by decide) (by decide) (by kernel_rfl) (by kernel_rfl) (by kernel_rfl) (by rfl) hS0 (fun w hw=>yad _ _ ⟨g,p+9,none⟩ _ rfl rfl (HXt.out w hw)) (fun K hK=>?_);go_simp;refine hK _ ?_;clear hK K;refine ycI (v:=.agg (rC q)) 16 (by rfl) (by decide) (by decide) (by kernel_rfl) (by kernel_rfl) (by kernel_rfl) (by rfl) hS0 (fun w hw=>yad _ _ ⟨ga,0,none⟩ _ rfl rfl (HXq.out w hw)) (fun K hK=>?_);go_simp;refine hK _ ?_;clear hK K;refine yfO 10 (by kernel_rfl) (by decide) (by rfl) (by rfl) (fun K hK=>?_);refine yaf 54 #[.agg F,.agg (rC q)] (by go_simp) ?_;refine (H1.out _).mono ?_;rintro e u1 ⟨rfl,hk1⟩;have hS0:=hS0.tz hk1;refine ⟨_,rfl,?_⟩;refine hK _ _ hS0 ?_;clear hK K hk1;refine yfO 17 (by kernel_rfl) (by decide) (by rfl) (by rfl) (fun K hK=>?_);refine yaf 54 #[.agg L,.agg (rC q)] (by go_simp) ?_;refine (H2.out _).mono ?_;rintro e u1 ⟨rfl,hk1⟩;have hS0:=hS0.tz hk1;refine ⟨_,rfl,?_⟩;refine hK _ _ hS0 ?_;clear hK K hk1;refine' yaQ (v:=_) 18 (by rfl) (by decide) (by decide) (by kernel_rfl) (by kernel_rfl) (by rfl) hS0 (fun w=>?hm18) (fun K hK=>?km18)
   case hm18=>(go_simp;try rfl)
   go_simp;refine hK _ ?_;clear hK K;refine' yaQ (v:=_) 19 (by rfl) (by decide) (by decide) (by kernel_rfl) (by kernel_rfl) (by rfl) hS0 (fun w=>?hn19) (fun K hK=>?kn19)
   case hn19=>(go_simp;try rfl)
   go_simp;refine hK _ ?_;clear hK K;have HO5:=jX (HO.out.later hS0);have HS5:=jX (HSet.out _ _ _ HO5.out);obtain⟨g',eg',_,_,_,ht1,ht2⟩:=HMid.out _ _ HO5.out;injection eg' with eg';injection eg' with eg';subst eg';have HT1:=jX ht1;have HT2:=jX (ht2 M1.toList (by simpa using F1.out.2.1));clear ht1 ht2 HXf HXt HXq H1 H2 HO;refine yhC (by kernel_rfl) (by decide) (by kernel_rfl) (by rfl) (by rfl) (fun K hK=>?_);refine wp_store_mid _ _ _ rfl g p M1 rfl rfl (by rw [F1.out.2.1];exact HT1.out) (by rw [F1.out.2.1];exact k_size) F1.out.2.2 ?_;go_simp;refine hK _ _ ?_;clear hK K;refine ⟨by kernel_rfl,?_⟩;simp only [List.drop_succ_cons,List.drop_zero];refine' yab (v:=_) (by rfl) (?hoa) (fun K hK=>?koa)
   case hoa=>(go_simp;try rfl)
   go_simp;refine hK _ _ ?_;clear hK K;refine' yab (v:=_) (by rfl) (?hob) (fun K hK=>?kob)
   case hob=>(go_simp;try rfl)
   go_simp;refine hK _ _ ?_;clear hK K;refine yaD (by rfl) _ _ _ rfl g (p+9) M2 rfl rfl (by rw [F2.out.2.1];exact HT2.out) (by rw [F2.out.2.1];exact k_size) F2.out.2.2 (fun K hK=>?_);go_simp;refine hK _ _ ?_;clear hK K HT1 HT2;generalize World.setCells (World.setCells _ g p M1.toList) g (p+9) M2.toList=u9 at *;go_wp2_with fail;go_roundw
   case rel=>exact ⟨k+1,by omega,congrArg (Value.int .i64) (by omega),by rw [HD.out,Hstep.out,List.append_assoc];exact HS5.out⟩
   case measure=>simp [intOf];omega
  obtain rfl:k=l.length:=by omega
  have HX:=jX (HO.out.read);have HK:=jX (HkW.out.tz HO.out.keep);have HF:=jX (show (l.take l.length).map (mvI q)++l.drop l.length=l.map (mvI q) by rw [List.take_length,List.drop_length,List.append_nil])
  have HT:=jX (tyO_of HO.out);clear HO hov;go_wp2_with fail;go_ret
  exact ⟨_,rfl,by rw [← HF.out];exact HX.out,HK.out,HT.out⟩
theorem Ls.shiftT {w:World} {v:Value} {a:List (Iv K)} (h:Ls w [(v,a)]) {k:Nat} {q:Rat} (hk:k≤900) (hsm:∀ i∈a,SmI k i) (hq:FitQ 24 q):Calls prog 39 #[v,.agg (rC q)] w (TPost w (a.map (mvI q))):=by
 have h0:=h _ (List.mem_singleton.2 rfl);rw [← yaw];exact yeR (norm_mv hk hq hsm h0.2.1) (by rw [List.length_map];exact h0.2.2) ((shift_pT a q k hk hsm hq w v h0.1 h0.2.2).mono fun e w' ⟨v,h1,h2,h3,h4⟩=>⟨v,h1,h2,h3.bz,h4⟩)
end
section
open Classical
noncomputable def shS (q:Rat) (s:St):St:=⟨s.d.map (mvI q),s.g,s.a,s.b⟩
theorem sAt_sh (q:Rat) (l:List St) (i:Nat):sAt (l.map (shS q)) i=shS q (sAt l i):=by
 unfold sAt;rw [List.getD_eq_getElem?_getD,List.getD_eq_getElem?_getD,List.getElem?_map];cases l[i]? <;> rfl
theorem stepsOf_pts {l:List EvA} {s:St} (h:s∈yaV l):∃ S:List K,S.length≤8∧(∀ x∈S,Sm 5 x)∧PtsIn S s.d:=by
 obtain⟨i,e,rfl⟩:=ydP h;exact evS_pts i e
theorem sm_sh {x:K} {q:Rat} (h:Sm 5 x) (hq:FitQ 8 q):Sm 28 (mvK q x):=by
 unfold Sm;rw [ybA h (by decide) (hq.mono (by decide))];exact ⟨(FitQ.add h.1 hq).mono (by decide),h.2.mono (by decide)⟩
theorem good_sh {q:Rat} (hq:FitQ 8 q) (l:List EvA):Good ((yaV l).map (shS q)):=by
 have hg:=yht l;refine ⟨fun s hs=>?_,by rw [List.length_map];exact hg.le,fun s hs=>?_,fun h=>?_⟩
 ·obtain⟨t,ht,rfl⟩:=List.mem_map.1 hs
  obtain⟨h1,h2,h3,h4,h5⟩:=hg.ok t ht;obtain⟨S,k1,k2,k3⟩:=stepsOf_pts ht
  exact ⟨norm_mv (k:=5) (by decide) (hq.mono (by decide)) (fun i hi=>⟨k2 _ (k3 i hi).1,k2 _ (k3 i hi).2⟩) h1,⟨S.map (mvK q),by rw [List.length_map];omega,fun x hx=>by
   obtain⟨y,hy,rfl⟩:=List.mem_map.1 hx
   exact sm_sh (k2 y hy) hq,mv_pts k3⟩,h3,h4,h5⟩
 ·obtain⟨t,ht,rfl⟩:=List.mem_map.1 hs
  exact hg.pos t ht
 rw [List.length_map] at h;have:=hg.first h;rw [List.getElem_map];exact this
theorem liv_sh {q:Rat} (hq:FitQ 8 q) (l:List EvA) {n:Nat} (hn:n≤4) (i:Nat):ybG (sAt ((yaV l).map (shS q))) n i=(ybG (sAt (yaV l)) n i).map (mvI q) :=
 liv_shift (StsOk.at _ (yhv l)) (hq.mono (by decide)) (fun i=>by rw [sAt_sh];rfl) (fun i=>by rw [sAt_sh];rfl) (fun i=>by rw [sAt_sh];rfl) (fun i=>by rw [sAt_sh];rfl) hn _ (by omega)
def StsT (w:World) (svs:List StV):Prop:=∀ x∈svs,Ls w [(x.v,x.s.d)]∧TyI w x.v
theorem StsT.grow {w w':World} {vs:List StV} (h:StsT w vs) (hb:Below w.heap.size w w'):StsT w' vs:=fun x hx=>⟨(h x hx).1.grow hb,(h x hx).2.grow hb⟩
theorem s_ne:65≠32:=by decide
theorem StsT.ty {w w':World} {vs:List StV} {F:List Nat} (h:StsT w vs) (hF:∀ g∈F,∃ cur,w.heap[g]? = some (.cells cur 65)) (hk:Keep F w w'):StsT w' vs:=fun x hx=>(h x hx).1.tyE s_ne (h x hx).2 hF hk
theorem StsT.snoc {w:World} {vs:List StV} {x:StV} (h:StsT w vs) (hx:Ls w [(x.v,x.s.d)]∧TyI w x.v):StsT w (vs++[x]):=fun y hy=>by
 rcases List.mem_append.1 hy with hy|hy
 ·exact h y hy
 rw [List.mem_singleton] at hy;subst hy;exact hx
theorem StsT.str {w0 w:World} {v:Value} {svs:List StV} (h:StsT w svs) (ho:OBS w0 w v svs):StR w v svs :=
 ⟨OB.read ho,fun p hp=>by
  obtain⟨x,hx,rfl⟩:=List.mem_map.1 hp
  exact (h x hx).1 _ (List.mem_singleton.2 rfl)⟩
theorem put_d (a a':Option Addr) (c c':Nat) (d d':List (Iv K)) (g x y:Rat):(StV.C ⟨a,c,⟨d,g,x,y⟩⟩).setIfInBounds 0 (.slice a' d'.length c')=StV.C ⟨a',c',⟨d',g,x,y⟩⟩:=by
 rw [StV.eC,StV.eC];rfl
theorem patternShifts_c (w:World) (v0 v1:Value) (m0:EvsArg w v0) (m1:RFArg w v1) :
  Calls prog 6 #[v0,v1] w fun e w'=>e = .returned (.bool true)∧Below w.heap.size w w':=by
 obtain⟨l,hr⟩:=m0;obtain⟨r,rfl,hsz⟩:=m1;have HA:=jX hr;have HF:=jX (fraction_c r hsz);obtain⟨ao,ac,rfl,hl9⟩:=hr.form;clear hr hsz;have HK:=jX (fun u=>known51_c u);unfold RawF.v at *;have HC:=jX (rfl:r.C=r.C);have HLr:=jX (fun (u:World) (g:Nat)=>load_rawF (w:=u) (g:=g) (x:=r));by_cases h0:l.length=0∨r.ok=false
 ·rcases Nat.eq_zero_or_pos l.length with hz|hz
  ·have hi:((l.length:Int) == 0)=true:=by rw [beq_iff_eq];omega
   clear h0 HF HLr HC;go_enter func6,ntmps6
   go_upto_region 1 with (fail)
   obtain⟨W,ga,hW,ega,Bga,hga,hgW,HkW⟩:=al1h w (.cells r.C 28);rw [← hW];try rw [ega]
   clear hW ega;go_wp2_with fail;refine (HK.out _).mono ?_;rintro e w1 ⟨rfl,hb⟩;dsimp only;have HB:=jX (HkW.out.bz.trans (Below.mono hb HkW.out.size));clear hb;go_wp2_with fail;refine (HK.out _).mono ?_;rintro e w2 ⟨rfl,hb⟩;dsimp only;have HB:=jX (HB.out.trans (Below.mono hb HB.out.size));clear hb;go_wp2_with fail;go_ret
   exact ⟨rfl,HB.out⟩
  have hi:((l.length:Int) == 0)=false:=by rw [beq_eq_false_iff_ne];omega
  have hok:r.ok=false:=h0.resolve_left (by omega);rw [hok] at HF;clear h0 hok;go_enter func6,ntmps6
  go_upto_region 1 with (fail)
  obtain⟨W,ga,hW,ega,Bga,hga,hgW,HkW⟩:=al1h w (.cells r.C 28);rw [← hW];try rw [ega]
  clear hW ega;refine wp_region_lit ?_;refine wpList_plain (by rfl) (fun K hK=>?_);refine yaf 36 #[] (by go_simp) ?_;refine (HK.out _).mono ?_;rintro e9 w1 ⟨rfl,hb⟩;refine ⟨_,rfl,?_⟩;go_simp;refine hK _ _ ?_;clear hK K;have HB:=jX (HkW.out.bz.trans (Below.mono hb HkW.out.size));have Bga:=jX ((hb.block ga (yaa Bga.out)).trans Bga.out);clear hb;iterate 7 (first|(refine gWE (by rfl) ?_;refine ⟨?_,?_,fun K hK=>?_⟩;rotate_left;(go_simp;try rfl);go_simp;refine hK _ _ ?_;clear hK K)|(refine gWS (by rfl) (fun K hK=>?_);go_simp;refine hK _ _ ?_;clear hK K))
  refine gWE (by rfl) ⟨.agg r.C,yad _ _ ⟨ga,0,none⟩ _ rfl rfl (HLr.out _ _ Bga.out),fun K hK=>?_⟩;go_simp;refine hK _ _ ?_;clear hK K;refine gWC (by rfl) (fun K hK=>?_);refine yaf 37 #[.agg r.C] (by go_simp) ?_;refine (HF.out _).mono ?_;rintro e9 w2 ⟨rfl,hk⟩;refine ⟨_,rfl,?_⟩;go_simp;refine hK _ _ ?_;clear hK K;have HB:=jX (HB.out.trans (Below.mono hk.bz HB.out.size));clear hk HF HLr;iterate 2 (first|(refine gWE (by rfl) ?_;refine ⟨?_,?_,fun K hK=>?_⟩;rotate_left;(go_simp;try rfl);go_simp;refine hK _ _ ?_;clear hK K)|(refine gWS (by rfl) (fun K hK=>?_);go_simp;refine hK _ _ ?_;clear hK K))
  go_wp2_with fail;refine (HK.out _).mono ?_;rintro e w3 ⟨rfl,hb⟩;dsimp only;have HB:=jX (HB.out.trans (Below.mono hb HB.out.size));clear hb;go_wp2_with fail;go_ret
  exact ⟨rfl,HB.out⟩
 have hi:((l.length:Int) == 0)=false:=by rw [beq_eq_false_iff_ne];omega
 have hok:r.ok=true:=by cases h:r.ok with
  | true=>rfl
  | false=>exact absurd (.inr h) h0
 obtain⟨q,hq,hrC⟩:=RawF.ok_some hok;rw [hok,hrC] at HF;rw [hrC] at HLr ⊢;have Hl0:=jX (show 0<l.length by omega)
 clear hl9 h0 hok HC;go_enter func6,ntmps6
 go_upto_region 1 with (fail)
 obtain⟨W,ga,hW,ega,Bga,hga,hgW,HkW⟩:=al1h w (.cells (rC q) 28);rw [← hW];try rw [ega]
 clear hW ega;have HA:=jX (HA.out.later HkW.out.bz);refine wp_region_lit ?_;refine wpList_plain (by rfl) (fun K hK=>?_);refine yaf 36 #[] (by go_simp) ?_;refine (HK.out _).mono ?_;rintro e9 w1 ⟨rfl,hb⟩;refine ⟨_,rfl,?_⟩;go_simp;refine hK _ _ ?_;clear hK K;have HB:=jX (HkW.out.bz.trans (Below.mono hb HkW.out.size));have HA:=jX (HA.out.later hb);have Bga:=jX ((hb.block ga (yaa Bga.out)).trans Bga.out);clear hb HK;iterate 7 (first|(refine gWE (by rfl) ?_;refine ⟨?_,?_,fun K hK=>?_⟩;rotate_left;(go_simp;try rfl);go_simp;refine hK _ _ ?_;clear hK K)|(refine gWS (by rfl) (fun K hK=>?_);go_simp;refine hK _ _ ?_;clear hK K))
 refine gWE (by rfl) ⟨.agg (rC q),yad _ _ ⟨ga,0,none⟩ _ rfl rfl (HLr.out _ _ Bga.out),fun K hK=>?_⟩;go_simp;refine hK _ _ ?_;clear hK K;refine gWC (by rfl) (fun K hK=>?_);refine yaf 37 #[.agg (rC q)] (by go_simp) ?_;refine (HF.out _).mono ?_;rintro e9 w2 ⟨rfl,hk⟩;refine ⟨_,rfl,?_⟩;go_simp;refine hK _ _ ?_;clear hK K;have HB:=jX (HB.out.trans (Below.mono hk.bz HB.out.size));have HA:=jX (HA.out.later hk.bz);have Bga:=jX (hk.heap Bga.out (by simp));clear hk HF HLr;iterate 2 (first|(refine gWE (by rfl) ?_;refine ⟨?_,?_,fun K hK=>?_⟩;rotate_left;(go_simp;try rfl);go_simp;refine hK _ _ ?_;clear hK K)|(refine gWS (by rfl) (fun K hK=>?_);go_simp;refine hK _ _ ?_;clear hK K))
 have HS:=jX (Steps_s l w2 _ HA.out);go_wp2_with fail;refine HS.out.mono ?_;rintro e w3 ⟨xa,xc,svs,rfl,hst,hgd,hso,hln,hb⟩;dsimp only;have HB:=jX (HB.out.trans (Below.mono hb HB.out.size));have Bga:=jX ((hb.block ga (yaa Bga.out)).trans Bga.out);have HR:=jX hst;have HG:=jX hgd;have HSo:=jX hso;have h1:0<svs.length:=by have:=Hl0.out;omega
 have h4:svs.length≤4:=by omega
 have h16:svs.length≤16:=by omega
 have hq24:FitQ 24 q:=hq.mono (by decide);clear hb HS HA hst hgd hso hln hi;obtain⟨ya,yc,hsv⟩:=HR.out.form;obtain⟨rfl,rfl⟩:xa=ya∧xc=yc:=by injection hsv with a b c;exact ⟨a,c⟩
 clear hsv;go_wp2_with fail;go_loopw [6,7] (fun ov c wr=>∃ (k:Nat) (vs:List StV),k≤svs.length∧c = .int .i64 (k:Int)∧OBS w3 wr ov vs∧StsT wr vs∧stS vs=((stS svs).take k).map (shS q)) (fun _ c _=>svs.length-(intOf c).toNat)
 case atStart=>exact ⟨0,[],Nat.zero_le _,rfl,OB.nil w3,fun _ h=>(by cases h),rfl⟩
 case round =>
  obtain⟨k,vs,hk,rfl,hov,hvt,hvs⟩:=hrel;have HO:=jX hov;have HT:=jX hvt;have HV:=jX hvs;have Hvl:=jX (show vs.length=k by have:=congrArg List.length hvs;unfold stS at this;simp at this;omega)
  obtain⟨oo,oc,rfl⟩:=OB.form hov;clear hov hvt hvs;by_cases hlt:k<svs.length
  ·obtain⟨g,o,rfl,hg,hat⟩:=StR.elem (HR.out.grow HO.out.keep) k hlt
   have hx:svs[k]∈svs:=List.getElem_mem hlt;have Hlx:=jX ((HR.out.grow HO.out.keep).ls hx);have hmem:svs[k].s∈stS svs:=List.mem_map_of_mem hx
   have hsm5:∀ i∈svs[k].s.d,SmI 5 i:=by
    rw [HSo.out] at hmem;obtain⟨S,k1,k2,k3⟩:=stepsOf_pts hmem;exact fun i hi=>⟨k2 _ (k3 i hi).1,k2 _ (k3 i hi).2⟩
   have Hstep:Hid (((stS svs).take (k+1)).map (shS q)=((stS svs).take k).map (shS q)++[shS q svs[k].s]):=jX (by
    have hl:k<(stS svs).length:=by unfold stS;rw [List.length_map];exact hlt
    have he:(stS svs)[k]=svs[k].s:=List.getElem_map ..
    rw [ycX (shS q) (stS svs) k hl,he])
   have hkc:(k:Int)<(svs.length:Int):=by omega
   have HSh:=jX (fun u (h:Ls u [(svs[k].v,svs[k].s.d)])=>h.shiftT (k:=5) (by decide) hsm5 hq24);obtain⟨p,hp⟩:∃ p,o+k*13=p:=⟨_,rfl⟩;rw [hp] at hat;generalize svs[k]=x at *;have HL:=jX (ydH wr g p x hat);have hxv:x.v = .slice x.a x.s.d.length x.c:=rfl;rw [hxv] at HSh Hlx;have Bgr:=jX ((HO.out.keep.block ga (yaa Bga.out)).trans Bga.out);obtain⟨M,hM⟩:∃ M,x.s.d.map (mvI q)=M:=⟨_,rfl⟩;rw [hM] at HSh;have HM:=jX hM;clear hat hx hmem hsm5 hxv hM;go_upto_region 8 with (fail)
   refine wp_region_lit ?_;refine' yab (v:=_) (by rfl) (?hc) (fun K hK=>?kc)
   case hc=>(go_simp;try rfl)
   go_simp;refine hK _ _ ?_;clear hK K;refine' yab (v:=_) (by rfl) (?hd) (fun K hK=>?kd)
   case hd=>(go_simp;try rfl)
   go_simp;refine hK _ _ ?_;clear hK K;refine' yab (v:=_) (by rfl) (?he) (fun K hK=>?ke)
   case he=>(go_simp;try rfl)
   go_simp;refine hK _ _ ?_;clear hK K;refine yab (v:=.agg x.C) (by rfl) (yad _ _ ⟨g,p,none⟩ _ rfl rfl HL.out) (fun K hK=>?_);go_simp;refine hK _ _ ?_;clear hK K;obtain⟨w4,gs,e1,e2,bgs,hgs,_,hk1⟩:=al1 wr (.cells #[.slice none 0 0,.bool false,.string ⟨#[]⟩,.bool false,.string ⟨#[]⟩,.bool false,.string ⟨#[]⟩,.bool false,.string ⟨#[]⟩,.bool false,.string ⟨#[]⟩,.bool false,.string ⟨#[]⟩] 65);refine yam (v:=.pointer (some ⟨wr.heap.size,0,none⟩)) (w':=wr.alloc (.cells #[.slice none 0 0,.bool false,.string ⟨#[]⟩,.bool false,.string ⟨#[]⟩,.bool false,.string ⟨#[]⟩,.bool false,.string ⟨#[]⟩,.bool false,.string ⟨#[]⟩,.bool false,.string ⟨#[]⟩] 65)) (by rfl) (al_st _ _ _ rfl) (fun K hK=>?_);rw [← e1,e2];clear e1;go_simp;refine hK _ _ ?_;clear hK K;refine yah (by rfl) _ _ _ rfl gs x.C rfl rfl _ _ bgs (by exact yeS x) (by rfl) x.ones (fun K hK=>?_);obtain⟨w5,e4,b4,k4⟩:=yai (cs:=x.C) bgs;rw [e4];go_simp;refine hK _ _ ?_;clear hK K e4 HL;have hW:=(show Keep [] wr w5 from hk1.trans k4 (by simp;omega)).bz
   have Bgs:=jX b4;have hgw:wr.heap.size≤gs:=by omega
   have Bgr:=jX ((hW.block ga (yaa Bgr.out)).trans Bgr.out);have Hlx:=jX (Hlx.out.grow hW);have HW:=jX hW;clear hW hk1 k4 b4 bgs e2 hgs;have pd:w5.cell? ⟨gs,0,none⟩=some (.slice x.a x.s.d.length x.c):=(ybl Bgs.out).d0;go_upto_region 9 with (fail)
   refine wp_region_lit ?_;refine' yab (v:=_) (by rfl) (?hf) (fun K hK=>?kf)
   case hf=>(go_simp;try rfl)
   go_simp;refine hK _ _ ?_;clear hK K;refine' yab (v:=_) (by rfl) (?hh) (fun K hK=>?kh)
   case hh=>(go_simp;try rfl)
   go_simp;refine hK _ _ ?_;clear hK K;refine yab (v:=.agg (rC q)) (by rfl) (yad _ _ ⟨ga,0,none⟩ _ rfl rfl (ybu Bgr.out)) (fun K hK=>?_);go_simp;refine hK _ _ ?_;clear hK K;refine wpList_plain (by rfl) (fun K hK=>?_);refine yaf 39 #[.slice x.a x.s.d.length x.c,.agg (rC q)] (by go_simp) ?_;refine (HSh.out _ Hlx.out).mono ?_;rintro e9 w6 ⟨a1,c1,rfl,hb,hl1,ht1⟩;refine ⟨_,rfl,?_⟩;go_simp;refine hK _ _ ?_;clear hK K;have HW:=jX (HW.out.trans (Below.mono hb HW.out.size));have Bgs:=jX ((hb.block gs (yaa Bgs.out)).trans Bgs.out);have HD:=jX (And.intro hl1 ht1);clear hb hl1 ht1 HSh Hlx Bgr pd;obtain⟨w7,eW,bW,kW⟩:=ybh (v:=.slice a1 M.length c1) Bgs.out (i:=0) (by show 0<13;decide)
   have f0:=yak Bgs.out;have l0:=yaa Bgs.out;have q0:w6.cell? ⟨gs,0,none⟩=some (.slice x.a x.s.d.length x.c):=(ybl Bgs.out).d0
   have hFs:∀ b∈[gs],∃ cur,w6.heap[b]? = some (.cells cur 65):=fun b hb=>by
    rw [List.mem_singleton] at hb;subst hb;exact ⟨_,Bgs.out⟩
   have HD7:=jX (HD.out.1.tyE s_ne HD.out.2 hFs kW);have HW7:=jX (HW.out.trans (kW.below (by simp;exact hgw) HW.out.size));have hX:∃ X:StV,X=⟨a1,c1,⟨M,x.s.g,x.s.a,x.s.b⟩⟩:=⟨_,rfl⟩;obtain⟨X,hX⟩:=hX;have Bg7:=jX (show w7.heap[gs]? = some (.cells X.C 65) by rw [hX,← put_d x.a a1 x.c c1 x.s.d M x.s.g x.s.a x.s.b];exact bW)
   have HXs:Hid (X.s=shS q x.s):=jX (by rw [hX,← HM.out];rfl);have HDX:=jX (show Ls w7 [(X.v,X.s.d)]∧TyI w7 X.v by rw [hX];exact HD7.out)
   have HO:=jX (HO.out.later HW7.out);have HT:=jX (HT.out.grow HW7.out);clear hFs kW bW HD HD7 HW HM hX Bgs;go_upto_region 10 with (fail)
   clear q0 f0 l0 eW;refine wp_region_lit ?_;refine' yab (v:=_) (by rfl) (?hra) (fun K hK=>?kra)
   case hra=>(go_simp;try rfl)
   go_simp;refine hK _ _ ?_;clear hK K;refine yab (v:=.agg X.C) (by rfl) (yad _ _ ⟨gs,0,none⟩ _ rfl rfl (ydH _ gs 0 X (ybl Bg7.out))) (fun K hK=>?_);go_simp;refine hK _ _ ?_;clear hK K;obtain⟨ub,e6,v4,u4,hr4,ho4,F,hF1,hF2,hk4⟩:=OBS.app X HO.out (by have:=Hvl.out;omega);refine yam (v:=.slice (some ⟨w7.heap.size,0,none⟩) 1 1) (by rfl) (yaT 62 1 #[(0,.tmp 45)] #[(0,.agg X.C)] _ rfl (by simp only [List.map_toArray,List.map_cons,List.map_nil];rfl) (ygR _ _)) (fun K hK=>?_);rw [e6];clear e6;go_simp;refine hK _ _ ?_;clear hK K;refine yam (by rfl) (yaJ (.tmp 44) (.tmp 46) 62 _ _ _ rfl rfl rfl hr4) (fun K hK=>?_);go_simp;refine hK _ _ ?_;clear hK K hr4;have HN4:=jX ho4;have hFt:∀ g∈F,∃ cur,w7.heap[g]? = some (.cells cur 65):=fun g hg=>OBS.ty HO.out g (hF2 g hg);have HT4:=jX ((HT.out.ty hFt hk4).snoc (HDX.out.1.tyE s_ne HDX.out.2 hFt hk4));obtain⟨no,nc,rfl⟩:=OB.form ho4;clear ho4 hFt hF1 hF2 hk4;go_wp2_with fail;go_roundw
   case rel =>
    refine ⟨k+1,vs++[X],by omega,congrArg (Value.int .i64) (by omega),HN4.out,HT4.out,?_⟩;rw [Hstep.out,← HV.out];unfold stS;rw [List.map_append];exact congrArg (fun y=>List.map (·.s) vs++[y]) HXs.out
   case measure=>simp [intOf];omega
  have hkn:k=svs.length:=by omega
  have hvs:stS vs=(yaV l).map (shS q):=by
   rw [HV.out,hkn,List.take_of_length_le (by unfold stS;rw [List.length_map];omega),HSo.out]
  have hvl:vs.length=svs.length:=by have:=Hvl.out;omega
  have HR1:=jX (HR.out.grow HO.out.keep);have HR2:=jX (StsT.str HT.out HO.out);have HB:=jX (HB.out.trans (Below.mono HO.out.keep HB.out.size));have Bga:=jX ((HO.out.keep.block ga (yaa Bga.out)).trans Bga.out);have C1:=jX (fun u sv (h:StR u sv svs)=>LivP.row (ygv svs HG.out h1 h4 u sv h));have C2:=jX (fun u sv (h:StR u sv vs)=>LivP.row (ygv vs (by rw [hvs];exact good_sh hq l) (by omega) (by omega) u sv h))
  have HF:Hid (ybG (sAt (stS vs)) vs.length=fun i=>(ybG (sAt (stS svs)) svs.length i).map (mvI q)):=jX (funext fun i=>by
   rw [hvs,hvl,HSo.out]
   exact liv_sh hq l h4 i)
  have hsm:∀ i,i<svs.length→∀ j∈ybG (sAt (stS svs)) svs.length i,SmI 400 j:=fun i hi j hj=>(yfL (StsOk.at _ HG.out.ok) h4 (svs.length-1-i) (by omega) j hj).mono (by omega);rw [HF.out,hvl] at C2;have HSh:=jX (fun i (hi:i<svs.length) u v (h:Ls u [(v,ybG (sAt (stS svs)) svs.length i)])=>h.shiftT (k:=400) (by decide) (hsm i hi) hq24);clear hsm HF hvs HV HSo HG hkn HT HO HR Hvl hvl;generalize ybG (sAt (stS svs)) svs.length=G at *;go_wp2_with fail;refine (C1.out _ _ HR1.out).mono ?_;rintro e w5 ⟨g1,c1,rfl,hr1,hb⟩;dsimp only;have HB:=jX (HB.out.trans (Below.mono hb HB.out.size));have HR2:=jX (HR2.out.grow hb);have Bga:=jX ((hb.block ga (yaa Bga.out)).trans Bga.out);have R1:=jX hr1;clear hb hr1 C1 HR1;go_wp2_with fail;refine (C2.out _ _ HR2.out).mono ?_;rintro e w6 ⟨g2,c2,rfl,hr2,hb⟩;dsimp only;have HB:=jX (HB.out.trans (Below.mono hb HB.out.size));have Bga:=jX ((hb.block ga (yaa Bga.out)).trans Bga.out);have R1:=jX (R1.out.grow hb);have R2:=jX hr2;clear hb hr2 C2 HR2;go_wp2_with fail;go_loopw [13] (fun c wr=>∃ k:Nat,k≤svs.length∧c = .int .i64 (k:Int)∧Below w6.heap.size w6 wr) (fun c _=>svs.length-(intOf c).toNat)
  case atStart=>exact ⟨0,Nat.zero_le _,rfl,Below.refl _ _⟩
  case round =>
   obtain⟨i,hi,rfl,hb⟩:=hrel;have HX:=jX hb;have Bga:=jX ((hb.block ga (yaa Bga.out)).trans Bga.out);by_cases hlt:i<svs.length
   ·obtain⟨hg1,xa1,xc1,q1,hl1⟩:=(R1.out.grow hb).get hlt
    obtain⟨hg2,xa2,xc2,q2,hl2⟩:=(R2.out.grow hb).get hlt;have hic:(i:Int)<(svs.length:Int):=by omega
    have HSi:=jX (HSh.out i hlt);have Hl1:=jX hl1;have Hl2:=jX hl2;have Q1:=jX q1;have Q2:=jX q2;clear hl1 hl2 q1 q2 hb;obtain⟨M,hM⟩:∃ M,(G i).map (mvI q)=M:=⟨_,rfl⟩;rw [hM] at HSi Hl2 Q2;clear hM;generalize G i=L at *;go_upto_region 18 with (fail)
    refine yao (S:=fun u=>Below wr.heap.size wr u) 11 (by kernel_rfl) (by kernel_rfl) (fun _ _ d _ _ h=>by cases d<;>exact h) ?_;have hS0:=(Keep.drew [] wr).bz;generalize World.drew wr=u2 at *;refine' jG (v:=_) 0 hS0 (fun w hw=>?hsq0) (fun K hK=>?ksq0)
    case hsq0=>(go_simp;try rfl)
    go_simp;refine hK _ ?_;clear hK K;refine' jG (v:=_) 1 hS0 (fun w hw=>?hsq1) (fun K hK=>?ksq1)
    case hsq1=>(go_simp;try rfl)
    go_simp;refine hK _ ?_;clear hK K;refine' jG (v:=_) 2 hS0 (fun w hw=>?hsq2) (fun K hK=>?ksq2)
    case hsq2=>(go_simp;try rfl)
    go_simp;refine hK _ ?_;clear hK K;refine' jG (v:=_) 3 hS0 (fun w hw=>?hsq3) (fun K hK=>?ksq3)
    case hsq3=>(have q:=(World.cell?_of_block (hw.block g1 hg1)).trans Q1.out;go_simp;try rfl)
    go_simp;refine hK _ ?_;clear hK K;refine jG (v:=.agg (rC q)) 4 hS0 (fun w hw=>yad _ _ ⟨ga,0,none⟩ _ rfl rfl (ybu ((hw.block ga (yaa Bga.out)).trans Bga.out))) (fun K hK=>?_);go_simp;refine hK _ ?_;clear hK K;refine' jG (v:=_) 6 hS0 (fun w hw=>?hsq6) (fun K hK=>?ksq6)
    case hsq6=>(go_simp;try rfl)
    go_simp;refine hK _ ?_;clear hK K;refine' jG (v:=_) 7 hS0 (fun w hw=>?hsq7) (fun K hK=>?ksq7)
    case hsq7=>(go_simp;try rfl)
    go_simp;refine hK _ ?_;clear hK K;refine' jG (v:=_) 8 hS0 (fun w hw=>?hsq8) (fun K hK=>?ksq8)
    case hsq8=>(go_simp;try rfl)
    go_simp;refine hK _ ?_;clear hK K;refine' jG (v:=_) 9 hS0 (fun w hw=>?hsq9) (fun K hK=>?ksq9)
    case hsq9=>(have q:=(World.cell?_of_block (hw.block g2 hg2)).trans Q2.out;go_simp;try rfl)
    go_simp;refine hK _ ?_;clear hK K;refine jP 5 (fun K hK=>?_);refine yaf 39 #[.slice xa1 L.length xc1,.agg (rC q)] (by go_simp) ?_;refine (HSi.out _ _ (Hl1.out.grow hS0)).mono ?_;rintro e u3 ⟨a3,c3,rfl,hb,hl3,_⟩;have hS0:=hS0.trans (Below.mono hb hS0.size);refine ⟨_,rfl,?_⟩;go_simp;refine hK _ _ hS0 ?_;clear hK K;refine jP 10 (fun K hK=>?_);refine yaf 20 #[.slice a3 M.length c3,.slice xa2 M.length xc2] (by go_simp) ?_;refine (hl3.peq_t (Hl2.out.grow hS0)).mono ?_;rintro e u4 ⟨rfl,hb⟩;have hS0:=hS0.trans (Below.mono hb hS0.size);refine ⟨_,rfl,?_⟩;go_simp;refine hK _ _ hS0 ?_;clear hK K;refine ⟨by kernel_rfl,?_⟩;simp only [List.drop_succ_cons,List.drop_zero];have HX:=jX (HX.out.trans (Below.mono hS0 HX.out.size));clear hS0 hb hl3 HSi Hl1 Hl2 Q1 Q2 hg1 hg2;go_wp2_with fail;go_roundw
    case rel=>exact ⟨i+1,by omega,congrArg (Value.int .i64) (by omega),HX.out⟩
    case measure=>simp [intOf];omega
   have hic:¬ ((i:Int)<(svs.length:Int)):=by omega
   have HB:=jX (HB.out.trans (Below.mono hb HB.out.size));clear hb;go_wp2_with fail;go_ret
   exact ⟨rfl,HB.out⟩
end
section
open Classical
open Go.ChangeShapes Go.WideShapes Go.ChangeAt
def two (x y:RawF):Array Value:=#[.bool x.a1,.string x.a2,.bool x.a3,.string x.a4,.bool y.a1,.string y.a2,.bool y.a3,.string y.a4]
end
section
open Classical
theorem OE.ob {α:Type} {enc:α→List Value} {e:TypeId} {k:Nat} {w0 w:World} {v:Value} {l:List α} (h:OE enc e k w0 w v l):OB enc e k w0 w v l:=⟨h.row,h.base,h.keep.bz⟩
end
section
open Classical
def StsW (w0 w:World) (svs:List StV):Prop:=∀ x∈svs,Ls w [(x.v,x.s.d)]∧(TyI w x.v∨Ls w0 [(x.v,x.s.d)])
theorem StsW.grow {w0 w w':World} {vs:List StV} (h:StsW w0 w vs) (hb:Below w.heap.size w w'):StsW w0 w' vs:=fun x hx=>⟨(h x hx).1.grow hb,(h x hx).2.imp (fun t=>t.grow hb) id⟩
theorem StsW.put {w0 w w':World} {A B:List StV} {s t:StV} {g:Nat} (h:StsW w0 w (A++s :: B)) (ht:Ls w [(t.v,t.s.d)]∧TyI w t.v) (hg:∃ cur,w.heap[g]? = some (.cells cur 65)) (h0:w0.heap.size≤g) (hw:Below w0.heap.size w0 w) (hk:Keep [g] w w'):StsW w0 w' (A++t :: B):=by
 have hF:∀ b∈[g],∃ cur,w.heap[b]? = some (.cells cur 65):=fun b hb=>by
  rw [List.mem_singleton] at hb;subst hb;exact hg
 have hw':Below w0.heap.size w0 w':=hw.trans (hk.below (by simp;exact h0) hw.size)
 have old:∀ x∈A++s :: B,Ls w' [(x.v,x.s.d)]∧(TyI w' x.v∨Ls w0 [(x.v,x.s.d)]):=fun x hx=>by
  rcases (h x hx).2 with k|k
  ·have:=(h x hx).1.tyE s_ne k hF hk
   exact ⟨this.1,.inl this.2⟩
  exact ⟨k.grow hw',.inr k⟩
 intro x hx;rcases List.mem_append.1 hx with hx|hx
 ·exact old x (List.mem_append_left _ hx)
 rcases List.mem_cons.1 hx with rfl|hx
 ·have:=ht.1.tyE s_ne ht.2 hF hk
  exact ⟨this.1,.inl this.2⟩
 exact old x (List.mem_append_right _ (List.mem_cons_of_mem _ hx))
theorem StsW.str {w0 w0' w:World} {v:Value} {svs:List StV} (h:StsW w0 w svs) (ho:OBS w0' w v svs):StR w v svs :=
 ⟨OB.read ho,fun p hp=>by
  obtain⟨x,hx,rfl⟩:=List.mem_map.1 hp
  exact (h x hx).1 _ (List.mem_singleton.2 rfl)⟩
theorem OBS.mid {w0 w:World} {po:Option Addr} {n c:Nat} {A B:List StV} {s:StV} (h:OBS w0 w (.slice po n c) (A++s :: B)):∃ g,po=some ⟨g,0,none⟩∧g<w.heap.size∧StAt w g (A.length*13) s∧∃ cur,w.heap[g]? = some (.cells cur 65):=by
 have hn:n=(A++s :: B).length:=by
  obtain⟨po,pc,e⟩:=h.form;injection e
 subst hn;obtain⟨g,o,e,hg,hat⟩:=RowE.elem StV.len h.read A.length (by simp);have hx:(A++s :: B)[A.length]'(by simp)=s:=by simp
 rw [hx] at hat;subst e;rcases h.row.2 with ⟨hv,_⟩|⟨b,cap,cur,hv,_,hb,_⟩
 ·cases hv
 injection hv with e1;injection e1 with e1;injection e1 with e2 e3;subst e2 e3;exact ⟨g,rfl,hg,fun j v hj=>by have:=hat j v hj;rwa [Nat.zero_add] at this,cur,hb⟩
end
end Go.Proofs.YtpgffjjpiafhpaaGreatDoor
