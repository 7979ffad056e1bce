/- Parts of a proof: Fv Fw Fx. -/
import Derived.Test.YtpgffjjpiafhpaaGreatDoorS39
import Derived.Test.YtpgffjjpiafhpaaGreatDoorS15
set_option linter.unusedVariables false
set_option linter.unusedSimpArgs false
set_option maxRecDepth 100000
set_option maxHeartbeats 8000000
namespace Go.Proofs.YtpgffjjpiafhpaaGreatDoor
open Go.RowKit Tryz
section
open Classical
theorem ty_neE {e:TypeId} (he:e≠32) {w:World} {v:Value} (h:TyI w v) {g:Nat} {cur:Array Value} (hg:w.heap[g]? = some (.cells cur e)):v.ownBlock≠some g:=fun hv=>by
 obtain⟨c2,h2⟩:=h g hv;rw [hg] at h2;injection h2 with h2;injection h2 with _ h3;exact he h3
theorem IvR.laterE {e:TypeId} (he:e≠32) {w w':World} {v:Value} {l:List (Iv K)} (h:IvR w v l) (ht:TyI w v) {F:List Nat} (hF:∀ g∈F,∃ cur,w.heap[g]? = some (.cells cur e)) (hk:Keep F w w'):IvR w' v l∧TyI w' v:=by
 refine ⟨?_,fun g hg=>?_⟩
 ·rcases h with h|⟨g,o,c,rfl,hc,hg,hx⟩
  ·exact .inl h
  refine .inr ⟨g,o,c,rfl,hc,Nat.lt_of_lt_of_le hg hk.size,fun i v hv=>?_⟩;rw [World.cell?_of_block (hk.block g hg (fun hm=>by obtain⟨cur,hc2⟩:=hF g hm;exact ty_neE he ht hc2 rfl))];exact hx i v hv
 obtain⟨cur,hc⟩:=ht g hg;exact ⟨cur,hk.heap hc (fun hm=>by obtain⟨c2,hc2⟩:=hF g hm;exact ty_neE he ht hc2 hg)⟩
structure PerV where
 a:Option Addr
 c:Nat
 d:List (Iv K)
def PerV.v (x:PerV):Value:=.slice x.a x.d.length x.c
def PerV.cells (x:PerV):List Value:=[x.v]
theorem PerV.len (x:PerV):x.cells.length=1:=rfl
theorem PerV.one (x:PerV):∀ v∈x.cells,v.oneCell'=true:=by
 intro v hv;simp only [PerV.cells,List.mem_singleton] at hv;subst hv;rfl
def PersP (w:World) (vs:List PerV):Prop:=∀ x∈vs,Ls w [(x.v,x.d)]∧TyI w x.v
theorem PersP.nil (w:World):PersP w []:=fun _ h=>by cases h
theorem PersP.grow {w w':World} {vs:List PerV} (h:PersP w vs) (hb:Below w.heap.size w w'):PersP w' vs:=fun x hx=>⟨(h x hx).1.grow hb,(h x hx).2.grow hb⟩
theorem Ls.tyE {e:TypeId} (he:e≠32) {w w':World} {v:Value} {l:List (Iv K)} {F:List Nat} (h:Ls w [(v,l)]) (ht:TyI w v) (hF:∀ g∈F,∃ cur,w.heap[g]? = some (.cells cur e)) (hk:Keep F w w'):Ls w' [(v,l)]∧TyI w' v:=by
 have h0:=h _ (List.mem_singleton.2 rfl);have h1:=IvR.laterE he h0.1 ht hF hk;refine ⟨fun p hp=>?_,h1.2⟩;rw [List.mem_singleton] at hp;subst hp;exact ⟨h1.1,h0.2⟩
theorem PersP.ty {e:TypeId} (he:e≠32) {w w':World} {vs:List PerV} {F:List Nat} (h:PersP w vs) (hF:∀ g∈F,∃ cur,w.heap[g]? = some (.cells cur e)) (hk:Keep F w w'):PersP w' vs:=fun x hx=>(h x hx).1.tyE he (h x hx).2 hF hk
theorem PersP.snoc {w:World} {vs:List PerV} {x:PerV} (h:PersP w vs) (hx:Ls w [(x.v,x.d)]∧TyI w x.v):PersP w (vs++[x]):=fun y hy=>by
 rcases List.mem_append.1 hy with hy|hy
 ·exact h y hy
 rw [List.mem_singleton] at hy;subst hy;exact hx
abbrev OBP (w0 w:World) (v:Value) (vs:List PerV):Prop:=OB PerV.cells 22 1 w0 w v vs
theorem l_ne:22≠32:=by decide
theorem fill_l1 (a:Option Addr) (n c:Nat):Instr.fill (fun i=>some (i*1,1)) ((Array.range (1*1)).map ((#[.slice none 0 0]:Array Value)[· % (#[.slice none 0 0]:Array Value).size]!)) #[(0,Value.slice a n c)].toList=some #[.slice a n c]:=by kernel_rfl
theorem yip (x:PerV) (w:World):(Instr.buildSlice 67 1 #[(0,x.v)]).run prog w = .ok (.slice (some ⟨w.heap.size,0,none⟩) 1 1) (w.alloc (.cells x.cells.toArray 22)):=by
 obtain⟨i,hi,hz,hs,hb⟩:=ycb infoL;refine run_buildSlice (P:=prog) w 67 22 1 _ _ i _ underlying67 hi hz (by rw [hs];decide) (by rw [hs];decide) ?_;rw [hs];exact fill_l1 _ _ _
theorem OBP.ty {w0 w:World} {v:Value} {vs:List PerV} (h:OBP w0 w v vs):∀ g,v.ownBlock=some g→∃ cur,w.heap[g]? = some (.cells cur 22):=fun g hg=>by
 rcases h.row.2 with ⟨hv,_⟩|⟨b,cap,cur,hv,_,hb,_⟩
 ·rw [hv] at hg;cases hg
 rw [hv] at hg;injection hg with hg;subst hg;exact ⟨cur,hb⟩
theorem OBP.app {w0 w:World} {v:Value} {vs:List PerV} (t:PerV) (h:OBP w0 w v vs) (h9:vs.length≤1000000) :
  ∃ u,w.alloc (.cells t.cells.toArray 22)=u∧∃ v4 u4,(Builtin.append_ #[67,67] 67 #[v,.slice (some ⟨w.heap.size,0,none⟩) 1 1]).run prog u = .ok v4 u4∧OBP w0 u4 v4 (vs++[t])∧∃ F,(∀ g,v.ownBlock=some g→g∈F)∧(∀ g∈F,v.ownBlock=some g)∧Keep F w u4:=by
 have hk:=Keep.alloc [] w (.cells t.cells.toArray 22)
 have hx:RowE PerV.cells (w.alloc (.cells t.cells.toArray 22)) (.slice (some ⟨w.heap.size,0,none⟩) 1 1) [t]:=.inr ⟨w.heap.size,0,1,rfl,Nat.le_refl _,by simp,fun i v hv=>by
  rw [Nat.zero_add,yab (World.alloc_heap_new w (.cells t.cells.toArray 22))];refine (List.getElem?_toArray ..).trans ?_
  simpa using hv⟩
 obtain⟨b,hbs,hoe,hback⟩:=(h.later hk.bz).oe;obtain⟨i,hi,hz,hs,hbt⟩:=ycb infoL;obtain⟨v4,u4,hr4,ho4,hn4,hk4⟩:=OE.app (P:=prog) (bytes:=24) (ty:=67) underlying67 hi hz hs hbt (by rfl) (by decide) PerV.len PerV.one hoe (.inr (by simp)) hx (by unfold maxLen;simp;omega) (by simp;omega);refine ⟨_,rfl,v4,u4,hr4,hback _ _ _ ho4,v.ownBlock.toList,fun g hg=>by rw [hg];simp,fun g hg=>by simpa using hg,?_⟩;have:=hk4 v.ownBlock.toList (fun g hg=>by rw [hg];simp);refine ⟨this.os.trans hk.os,this.tape.trans hk.tape,this.output.trans hk.output,Nat.le_trans hk.size this.size,Nat.le_trans hk.drawn this.drawn,fun j hj hn=>?_⟩;exact (this.block j (Nat.lt_of_lt_of_le hj hk.size) hn).trans (hk.block j hj (by simp))
def RowL (w:World) (v:Value) (n:Nat) (F:Nat→List (Iv K)):Prop :=
 ∃ g c,v = .slice (some ⟨g,0,none⟩) n c∧g<w.heap.size∧∀ i,i<n→∃ a d,w.cell? ⟨g,i,none⟩=some (.slice a (F i).length d)∧Ls w [(.slice a (F i).length d,F i)]
theorem RowL.grow {w w':World} {v:Value} {n:Nat} {F:Nat→List (Iv K)} (h:RowL w v n F) (hb:Below w.heap.size w w'):RowL w' v n F:=by
 obtain⟨g,c,h1,h2,h3⟩:=h;refine ⟨g,c,h1,Nat.lt_of_lt_of_le h2 hb.size,fun i hi=>?_⟩;obtain⟨a,d,h4,h5⟩:=h3 i hi;exact ⟨a,d,(World.cell?_of_block (hb.block g h2)).trans h4,h5.grow hb⟩
theorem OutB.rowL {w:World} {g:Nat} {vs:List (Value × List (Iv K))} {F:Nat→List (Iv K)} (h:OutB w g vs) (hF:∀ i (h:i<vs.length),vs[i].2=F i) (c:Nat):RowL w (.slice (some ⟨g,0,none⟩) vs.length c) vs.length F :=
 ⟨g,c,rfl,yaa h.blk,fun i hi=>by
  obtain⟨a,d,h1,h2⟩:=h.cell i hi;rw [hF i hi] at h1 h2
  exact ⟨a,d,h1,h2⟩⟩
structure OutT (w:World) (g:Nat) (vs:List PerV):Prop where
 blk:∃ cur,w.heap[g]? = some (.cells cur 22)∧∀ i (h:i<vs.length),cur[i]? = some vs[i].v
 ps:PersP w vs
theorem OutT.grow {w w':World} {g:Nat} {vs:List PerV} (h:OutT w g vs) (hb:Below w.heap.size w w'):OutT w' g vs:=by
 obtain⟨cur,h1,h2⟩:=h.blk;exact ⟨⟨cur,(hb.block g (yaa h1)).trans h1,h2⟩,h.ps.grow hb⟩
theorem OutT.lt {w:World} {g:Nat} {vs:List PerV} (h:OutT w g vs):g<w.heap.size:=by
 obtain⟨cur,h1,_⟩:=h.blk;exact yaa h1
theorem OutT.cell {w:World} {g:Nat} {vs:List PerV} (h:OutT w g vs) (i:Nat) (hi:i<vs.length):w.cell? ⟨g,i,none⟩=some vs[i].v∧Ls w [(vs[i].v,vs[i].d)]:=by
 obtain⟨cur,h1,h2⟩:=h.blk;exact ⟨by rw [yab h1];exact h2 i hi,(h.ps _ (List.getElem_mem hi)).1⟩
theorem OutT.rowL {w:World} {g:Nat} {vs:List PerV} {F:Nat→List (Iv K)} (h:OutT w g vs) (hF:∀ i (h:i<vs.length),vs[i].d=F i) (c:Nat):RowL w (.slice (some ⟨g,0,none⟩) vs.length c) vs.length F :=
 ⟨g,c,rfl,h.lt,fun i hi=>by
  obtain⟨h1,h2⟩:=h.cell i hi;unfold PerV.v at h1 h2;rw [hF i hi] at h1 h2
  exact ⟨_,_,h1,h2⟩⟩
theorem OutT.set {w:World} {g:Nat} {vs:List PerV} (h:OutT w g vs) (i:Nat) (hi:i<vs.length) {x:PerV} (hx:Ls w [(x.v,x.d)]∧TyI w x.v) :
  ∃ W,w.setCell ⟨g,i,none⟩ x.v=W∧OutT W g (vs.set i x)∧Keep [g] w W:=by
 obtain⟨cur,h1,h2⟩:=h.blk;have his:i<cur.size:=(Array.getElem?_eq_some_iff.1 (h2 i hi)).1;obtain⟨W,e,hb,hk⟩:=ybA (v:=x.v) h1 his
 have hF:∀ b∈[g],∃ cur,w.heap[b]? = some (.cells cur 22):=fun b hb=>by
  rw [List.mem_singleton] at hb;subst hb;exact ⟨cur,h1⟩
 refine ⟨W,e,⟨⟨_,hb,fun j hj=>?_⟩,fun y hy=>?_⟩,hk⟩
 ·rw [List.length_set] at hj
  rw [Array.getElem?_setIfInBounds];by_cases hij:i=j
  ·subst hij
   rw [if_pos rfl,if_pos his,List.getElem_set_self]
  rw [if_neg hij,List.getElem_set_ne hij];exact h2 j hj
 rcases List.mem_or_eq_of_mem_set hy with hy|rfl
 ·exact h.ps.ty l_ne hF hk y hy
 exact hx.1.tyE l_ne hx.2 hF hk
theorem OBP.outT {w0 w:World} {v:Value} {vs:List PerV} (h:OBP w0 w v vs) (hp:PersP w vs) (h0:0<vs.length):∃ g c,v = .slice (some ⟨g,0,none⟩) vs.length c∧w0.heap.size≤g∧OutT w g vs:=by
 have hb:=h.base;rcases h.row.2 with ⟨hv,hn⟩|⟨g,cap,cur,hv,_,hg,hnc,hcm,hcs,htake⟩
 ·omega
 refine ⟨g,cap,hv,hb g (by rw [hv];rfl),⟨cur,hg,fun i hi=>?_⟩,hp⟩
 have h1:(vs.flatMap PerV.cells)[i]? = some vs[i].v:=by
  have:vs.flatMap PerV.cells=vs.map PerV.v:=by
   clear h hp h0 hb hv hnc htake hi;induction vs with
   | nil=>rfl
   | cons x r ih=>rw [List.flatMap_cons,ih];rfl
  rw [this,List.getElem?_map,List.getElem?_eq_getElem hi];rfl
 rw [← htake,Nat.mul_one,List.getElem?_take,if_pos hi,Array.getElem?_toList] at h1;exact h1
end
section
open Classical
def TPost (w:World) (l:List (Iv K)) (e:Ending) (w':World):Prop:=∃ a c,e = .returned (.slice a l.length c)∧Below w.heap.size w w'∧Ls w' [(.slice a l.length c,l)]∧TyI w' (.slice a l.length c)
theorem ygb {w:World} {m:List (Iv K)} (hn:Norm m) (h9:m.length≤10000) {f:Nat} {args:Array Value} (hc:Calls prog f args w fun e w'=>∃ v,e = .returned v∧IvR w' v m∧Below w.heap.size w w'∧TyI w' v):Calls prog f args w (TPost w m) :=
 hc.mono fun e w' ⟨v,he,hv,hk,ht⟩=>by
  obtain⟨a,c,rfl,_⟩:=hv.form;exact ⟨a,c,he,hk,(Ls.nil _).cons hv hn h9,ht⟩
theorem Ls.interT {w:World} {v u:Value} {a b:List (Iv K)} (h:Ls w [(v,a)]) (k:Ls w [(u,b)]) (h9:(combK 2 a b).length≤10000):Calls prog 108 #[v,u] w (TPost w (combK 2 a b)):=by
 have h0:=h _ (List.mem_singleton.2 rfl);have k0:=k _ (List.mem_singleton.2 rfl);exact ygb (yaq _ _ _) h9 ((Intersect_pT a b h0.2.1.val k0.2.1.val w v u h0.1 k0.1 h0.2.2 k0.2.2).mono fun e w' ⟨v,h1,h2,h3,h4⟩=>⟨v,h1,h2,h3.bz,h4⟩)
theorem Ls.rerode {w:World} {v:Value} {l:List (Iv K)} (h:Ls w [(v,l)]) {q:Rat} {k0:Nat} (hk0:k0≤80000) (hs:∀ s∈l,SmI k0 s) (hq:FitQ 24 q) (h9:(eroK q l).length≤10000) :
  Calls prog 55 #[v,.agg (rC q)] w (TPost w (eroK q l)):=by
 have h0:=h _ (List.mem_singleton.2 rfl);exact ygb (yaq _ _ _) h9 (rerodeT_c l q k0 hk0 hs hq w v h0.1 h0.2.2)
theorem Ls.rsweep {w:World} {v:Value} {l:List (Iv K)} (h:Ls w [(v,l)]) {a b:Rat} {k0:Nat} (hk0:k0≤70000) (hs:∀ s∈l,SmI k0 s) (ha:FitQ 24 a) (hb:FitQ 24 b) (hab:a≤b) (h9:(swpK a b l).length≤10000) :
  Calls prog 61 #[v,.agg (rC a),.agg (rC b)] w (TPost w (swpK a b l)):=by
 have h0:=h _ (List.mem_singleton.2 rfl);exact ygb (yaq _ _ _) h9 (rsweepT_c l a b k0 hk0 hs h0.2.1.val ha hb hab w v h0.1 h0.2.2)
def LivT (w:World) (n:Nat) (F:Nat→List (Iv K)) (e:Ending) (w':World):Prop :=
 ∃ g c vs,e = .returned (.slice (some ⟨g,0,none⟩) n c)∧Below w.heap.size w w'∧w.heap.size≤g∧OutT w' g vs∧vs.length=n∧∀ i (h:i<vs.length),vs[i].d=F i
theorem yjr (l:List StV) (hg:Good (stS l)) (h1:0<l.length) (h4:l.length≤4) (w:World) (sv:Value) (hr:StR w sv l) :
  Calls prog 46 #[sv] w (LivT w l.length (rchS (sAt (stS l)))):=by
 have HR:=jX hr;have HG:=jX hg;obtain⟨ao,ac,rfl⟩:=hr.form;clear hr hg;go_enter func46,ntmps46
 go_wp2_with fail;go_loopw [3,4] (fun ov c wr=>∃ (k:Nat) (vs:List PerV),k≤l.length∧c = .int .i64 (k:Int)∧OBP w wr ov vs∧PersP wr vs∧vs.length=k∧∀ i (h:i<vs.length),vs[i].d=rchS (sAt (stS l)) i) (fun _ c _=>l.length-(intOf c).toNat)
 case atStart=>exact ⟨0,[],Nat.zero_le _,rfl,OB.nil w,PersP.nil w,rfl,fun i h=>by cases h⟩
 case round =>
  obtain⟨k,vs,hk,rfl,hb,hp,hn,hF⟩:=hrel;have HO:=jX hb;have HP:=jX hp;have HF:=jX hF;obtain⟨oo,oc,rfl⟩:=hb.form;have Hn:=jX hn;clear hb hp hF hn;by_cases hlt:k<l.length
  ·obtain⟨g,o,rfl,hg,hat⟩:=StR.elem (HR.out.grow HO.out.keep) k hlt
   have hx:l[k]∈l:=List.getElem_mem hlt;have hsk:=yaY hlt;have HSt:=jX (StsOk.at _ HG.out.ok)
   have HE:Hid (∀ u,Below wr.heap.size wr u→Calls prog 55 #[l[k].v,.agg (rC l[k].s.g)] u (TPost u (eroK l[k].s.g l[k].s.d))):=fun u hu=>by
    refine Ls.rerode (((HR.out.grow HO.out.keep).grow hu).ls hx) (k0:=28) (by omega) ?_ ?_ (le10 (n:=32) ?_ (yaq _ _ _) (by omega))
    ·rw [← hsk];exact HSt.out.sm k
    ·rw [← hsk];exact yaX (HSt.out.g k)
    rw [← hsk];exact (HSt.out.few k).ero
   have HSab:=jX ((HG.out.pos _ (List.mem_map_of_mem hx)).2)
   have HEk:Hid (k=0→eroK l[k].s.g l[k].s.d=rchS (sAt (stS l)) k):=fun h=>by
    subst h;rw [← hsk];rfl
   have hkc:(k:Int)<(l.length:Int):=by omega
   have hxk:l[k]=l[k]'hlt:=rfl;obtain⟨p,hp⟩:∃ p,o+k*13=p:=⟨_,rfl⟩;rw [hp] at hat;generalize l[k]=x at *;have Hat:=jX hat;have hxv:x.v = .slice x.a x.s.d.length x.c:=rfl;rw [hxv] at HE;clear hat hx hxk hxv;go_upto_region 5 with (fail)
   refine yad (S:=fun u=>Below wr.heap.size wr u) 11 (by kernel_rfl) (by kernel_rfl) (fun _ _ d _ _ h=>by cases d<;>exact h) ?_;have hS0:=(Keep.drew [] wr).bz;generalize World.drew wr=u0 at *;refine tV 0 hS0 (fun _ _=>?_);go_simp;go_step;refine tV 1 hS0 (fun _ _=>?_);go_simp;go_step;refine tV 2 hS0 (fun _ _=>?_);go_simp;go_step;refine tV 3 hS0 (fun _ _=>?_);go_simp;go_step;refine' jG (v:=_) 4 hS0 (fun w hw=>?hea4) (fun K hK=>?kea4)
   case hea4=>(have q:World.cell? _ ⟨g,p,none⟩=some (Value.slice x.a x.s.d.length x.c):=(Hat.out.keep (hw.block g hg)).d0;go_simp;try rfl)
   go_simp;go_step;refine tV 5 hS0 (fun _ _=>?_);go_simp;go_step;refine tV 6 hS0 (fun _ _=>?_);go_simp;go_step;refine tV 7 hS0 (fun _ _=>?_);go_simp;go_step;refine tV 8 hS0 (fun _ _=>?_);go_simp;go_step;refine jG (v:=.agg (rC x.s.g)) 9 hS0 (fun w hw=>yai _ _ ⟨g,p+1,none⟩ _ rfl rfl ((Hat.out.keep (hw.block g hg)).lg)) (fun _ _=>?_);go_simp;go_step;refine jP 10 (fun K hK=>?_);refine yaf 55 #[.slice x.a x.s.d.length x.c,.agg (rC x.s.g)] (by go_simp) ?_;refine (HE.out _ hS0).mono ?_;rintro e u1 ⟨a1,c1,rfl,hb,hl1,ht1⟩;have hS0:=hS0.trans (Below.mono hb hS0.size);refine ⟨_,rfl,?_⟩;go_simp;refine hK _ _ hS0 ?_;clear hK K;refine ⟨by kernel_rfl,?_⟩;simp only [List.drop_succ_cons,List.drop_zero];have HO:=jX (HO.out.later hS0);have HP:=jX (HP.out.grow hS0);have Hat:=jX (Hat.out.keep (hS0.block g hg));have hg:=Nat.lt_of_lt_of_le hg hS0.size;have HD:=jX (And.intro hl1 ht1);clear hS0 hb hl1 ht1 HE;by_cases hk0:k=0
   ·have HFin:=jX (HEk.out hk0)
    have hkg:¬ (0:Int)<(k:Int):=by omega
    clear hk0 HEk;go_upto_region 6 with (fail)
    go_upto_region 9 with (fail)
    refine wp_region_lit ?_;refine wV (fun _ _=>?_);go_simp;go_step;refine wV (fun _ _=>?_);go_simp;go_step;obtain⟨ub,e6,v4,u4,hr4,ho4,F,hF1,hF2,hk4⟩:=OBP.app ⟨a1,c1,eroK x.s.g x.s.d⟩ HO.out (by have:=Hn.out;omega);refine yao (v:=.slice (some ⟨World.heap u1 |>.size,0,none⟩) 1 1) (by rfl) (yaJ 67 1 #[(0,.tmp 55)] #[(0,PerV.v ⟨a1,c1,eroK x.s.g x.s.d⟩)] _ rfl (by simp only [List.map_toArray,List.map_cons,List.map_nil];rfl) (yip _ _)) (fun K hK=>?_);rw [e6];clear e6;go_simp;go_step;refine yao (by rfl) (yaQ (.tmp 54) (.tmp 56) 67 _ _ _ rfl rfl rfl hr4) (fun _ _=>?_);go_simp;go_step;clear hr4;have HN4:=jX ho4;have hFt:∀ g∈F,∃ cur,(World.heap u1)[g]? = some (.cells cur 22):=fun g hg=>OBP.ty HO.out g (hF2 g hg);have HP4:=jX ((HP.out.ty l_ne hFt hk4).snoc (x:=⟨a1,c1,eroK x.s.g x.s.d⟩) (HD.out.1.tyE l_ne HD.out.2 hFt hk4));obtain⟨no,nc,rfl⟩:=ho4.form;clear ho4 hFt hF1 hF2 hk4;go_wp2_with fail;go_roundw
    case rel =>
     refine ⟨k+1,vs++[⟨a1,c1,eroK x.s.g x.s.d⟩],by omega,congrArg (Value.int .i64) (by omega),HN4.out,HP4.out,by rw [List.length_append];exact congrArg (· + 1) Hn.out,fun i hi=>?_⟩;by_cases hik:i=k
     ·subst hik
      rw [List.getElem_append_right (by have:=Hn.out;omega)];simp only [Hn.out,Nat.sub_self,List.getElem_cons_zero];exact HFin.out
     rw [List.length_append] at hi;simp only [List.length_cons,List.length_nil] at hi;have hil:i<vs.length:=by have:=Hn.out;omega
     rw [List.getElem_append_left hil];exact HF.out i hil
    case measure=>simp [intOf];omega
   obtain⟨j,hj⟩:∃ j,k=j+1:=⟨k-1,by omega⟩;have hkg:(0:Int)<(k:Int):=by omega
   have hjl:j<l.length:=by omega
   have hsub:IntKind.i64.wrap ((k:Int)-1)=(j:Int):=by rw [show (k:Int)-1=(j:Int) by omega];exact IntWalk.i64_in _ (by omega)
   have hj1:(j:Int)<(l.length:Int):=by omega
   have hj0:(0:Int)≤(j:Int):=by omega
   have Hj:=jX hj;have hjv:j<vs.length:=by have:=Hn.out;omega
   have hj2:(j:Int)<(vs.length:Int):=by omega
   clear hj;obtain⟨gy,oy,hge,hgy,haty⟩:=StR.elem (HR.out.grow HO.out.keep) j hjl;obtain⟨rfl,rfl⟩:gy=g∧oy=o:=by injection hge with hge;injection hge with h1 h2;exact ⟨h1.symm,h2.symm⟩
   have hsj:=yaY hjl;have hgj:FitQ 8 l[j].s.g:=by rw [← hsj];exact HSt.out.g j
   have hga:FitQ 8 x.s.a:=by rw [← hsk];exact HSt.out.a k
   have hgb:FitQ 8 x.s.b:=by rw [← hsk];exact HSt.out.b k
   generalize l[j]=y at *;obtain⟨pj,hpj⟩:∃ pj,oy+j*13=pj:=⟨_,rfl⟩;rw [hpj] at haty;have Haty:=jX haty;clear haty hge hgy;have HA1:=jX (fun u=>QAdd_c y.s.g x.s.a (hgj.mono (by decide)) (hga.mono (by decide)) u);have HA2:=jX (fun u=>QAdd_c y.s.g x.s.b (hgj.mono (by decide)) (hgb.mono (by decide)) u);rw [yam,yam,yam] at HA1 HA2;have hj3:j≤3:=by omega
   have hpow:64*2 ^ j-32≤480:=by
    have:j=0∨j=1∨j=2∨j=3:=by omega
    rcases this with rfl|rfl|rfl|rfl<;>decide
   have HFs:=(rch_few HSt.out.few j hj3).swp (a:=y.s.g+x.s.a) (b:=y.s.g+x.s.b);have hab:y.s.g+x.s.a≤y.s.g+x.s.b:=by have:=HSab.out;grind
   have hls:(swpK (y.s.g+x.s.a) (y.s.g+x.s.b) (rchS (sAt (stS l)) j)).length≤10000:=le10 HFs (yaq _ _ _) (by omega);have HSw:=jX (fun u v (h:Ls u [(v,rchS (sAt (stS l)) j)])=>h.rsweep (k0:=53+50*j) (by omega) (rch_sm HSt.out j (by omega)) (ybU hgj hga) (ybU hgj hgb) hab hls)
   have hfin:combK 2 (eroK x.s.g x.s.d) (swpK (y.s.g+x.s.a) (y.s.g+x.s.b) (rchS (sAt (stS l)) j))=rchS (sAt (stS l)) k:=by
    have h0:=rchD_eq HSt.out (j+1) (by omega);unfold rchD at h0;rw [rchD_eq HSt.out j (by omega),← Hj.out,hsk,hsj] at h0;exact h0
   have HFe:Few 32 (eroK x.s.g x.s.d):=by rw [← hsk];exact (HSt.out.few k).ero
   have hli:(combK 2 (eroK x.s.g x.s.d) (swpK (y.s.g+x.s.a) (y.s.g+x.s.b) (rchS (sAt (stS l)) j))).length≤10000:=le10 (HFe.comb HFs) (yaq _ _ _) (by omega);rw [hfin] at hli
   have HIn:=jX (fun u a b (h:Ls u [(a,eroK x.s.g x.s.d)]) (k:Ls u [(b,swpK (y.s.g+x.s.a) (y.s.g+x.s.b) (rchS (sAt (stS l)) j))])=>by
    have:=h.interT k (by rw [hfin];exact hli);rw [hfin] at this
    exact this)
   have hvd:vs[j].d=rchS (sAt (stS l)) j:=HF.out j hjv;have hql:Ls u1 [(vs[j].v,vs[j].d)]:=(HP.out _ (List.getElem_mem hjv)).1;obtain⟨go,co,hgo,_,hot⟩:=OBP.outT HO.out HP.out (by omega);have hqc:=(hot.cell j hjv).1;have hgo0:=hot.lt;injection hgo with hgo _ hco;subst hgo hco;clear hot;unfold PerV.v at hqc hql;rw [hvd] at hqc hql;generalize vs[j].a=ja at *;generalize vs[j].c=jc at *;have HQc:=jX hqc;have HQl:=jX hql;clear hqc hql hvd hli HFe hfin hls hab HFs hpow hgj hga hgb hsj HSab HSt hsk HEk;generalize rchS (sAt (stS l)) j=R at *;generalize swpK (y.s.g+x.s.a) (y.s.g+x.s.b) R=SW at *;generalize y.s.g+x.s.a=QA at *;generalize y.s.g+x.s.b=QB at *;obtain⟨RK,hRK⟩:∃ RK,rchS (sAt (stS l)) k=RK:=⟨_,rfl⟩;rw [hRK] at HIn;have HFin:=jX hRK.symm;clear hRK;go_upto_region 7 with (fail)
   refine wp_region_lit ?_;refine wV (fun _ _=>?_);go_simp;go_step;refine wV (fun _ _=>?_);go_simp;go_step;refine wV (fun _ _=>?_);go_simp;go_step;refine wV (fun _ _=>?_);go_simp;go_step;refine wV (fun _ _=>?_);go_simp;go_step;refine wX (v:=.agg (rC y.s.g)) ⟨gy,pj+1,none⟩ (Haty.out.lg) (fun _ _=>?_);go_simp;go_step;refine wA (ybN _ _ _ rfl) (fun w3 gb e2 bgb hgb _ hk1 _ _=>?_);go_simp;go_step;refine wR gb (rC y.s.g) bgb (by exact q_size) (by rfl) (yaK _) (fun w4 b4 k4 _ _=>?_);go_simp;go_step;have hbb:=(show Keep [] u1 w4 from hk1.trans k4 (by simp;omega)).bz
   have Bgb:=jX b4;have HO:=jX (HO.out.later hbb);have HP:=jX (HP.out.grow hbb);have HD:=jX (And.intro (HD.out.1.grow hbb) (HD.out.2.grow hbb));have Hat:=jX (Hat.out.keep (hbb.block gy hg));have HQc:=jX ((World.cell?_of_block (hbb.block go hgo0)).trans HQc.out);have HQl:=jX (HQl.out.grow hbb);have hg:=Nat.lt_of_lt_of_le hg hbb.size;have hgo0:=Nat.lt_of_lt_of_le hgo0 hbb.size;clear hbb k4 b4 hk1 hgb bgb e2 Haty;go_upto_region 8 with (fail)
   refine yad (S:=fun u=>Below w4.heap.size w4 u) 22 (by kernel_rfl) (by kernel_rfl) (fun _ _ d _ _ h=>by cases d<;>exact h) ?_;have hS0:=(Keep.drew [] w4).bz;generalize World.drew w4=u2 at *;refine tV 0 hS0 (fun _ _=>?_);go_simp;go_step;refine tV 1 hS0 (fun _ _=>?_);go_simp;go_step;refine tV 2 hS0 (fun _ _=>?_);go_simp;go_step;refine tV 3 hS0 (fun _ _=>?_);go_simp;go_step;refine tV 4 hS0 (fun _ _=>?_);go_simp;go_step;refine' jG (v:=_) 5 hS0 (fun w hw=>?hsb5) (fun K hK=>?ksb5)
   case hsb5=>(have q:=(World.cell?_of_block (hw.block go hgo0)).trans HQc.out;go_simp;try rfl)
   go_simp;go_step;refine jG (v:=.agg (rC y.s.g)) 6 hS0 (fun w hw=>yai _ _ ⟨gb,0,none⟩ _ rfl rfl (ybm ((hw.block gb (yaa Bgb.out)).trans Bgb.out))) (fun _ _=>?_);go_simp;go_step;refine tV 7 hS0 (fun _ _=>?_);go_simp;go_step;refine tV 8 hS0 (fun _ _=>?_);go_simp;go_step;refine tV 9 hS0 (fun _ _=>?_);go_simp;go_step;refine tV 10 hS0 (fun _ _=>?_);go_simp;go_step;refine jG (v:=.agg (rC x.s.a)) 11 hS0 (fun w hw=>yai _ _ ⟨gy,p+5,none⟩ _ rfl rfl (Hat.out.keep (hw.block gy hg)).la) (fun _ _=>?_);go_simp;go_step;refine jG (v:=.agg (rC y.s.g)) 13 hS0 (fun w hw=>yai _ _ ⟨gb,0,none⟩ _ rfl rfl (ybm ((hw.block gb (yaa Bgb.out)).trans Bgb.out))) (fun _ _=>?_);go_simp;go_step;refine tV 14 hS0 (fun _ _=>?_);go_simp;go_step;refine tV 15 hS0 (fun _ _=>?_);go_simp;go_step;refine tV 16 hS0 (fun _ _=>?_);go_simp;go_step;refine tV 17 hS0 (fun _ _=>?_);go_simp;go_step;refine jG (v:=.agg (rC x.s.b)) 18 hS0 (fun w hw=>yai _ _ ⟨gy,p+9,none⟩ _ rfl rfl (Hat.out.keep (hw.block gy hg)).lb) (fun _ _=>?_);go_simp;go_step;refine uQ 12 106 #[.agg (rC y.s.g),.agg (rC x.s.a)] hS0 (HA1.out _) (fun u3 hS0 _ _ _=>?_);go_simp;go_step;refine uQ 19 106 #[.agg (rC y.s.g),.agg (rC x.s.b)] hS0 (HA2.out _) (fun u4 hS0 _ _ _=>?_);go_simp;go_step;refine jP 20 (fun K hK=>?_);refine yaf 61 #[.slice ja R.length jc,.agg (rC QA),.agg (rC QB)] (by go_simp) ?_;refine (HSw.out _ _ (HQl.out.grow hS0)).mono ?_;rintro e u5 ⟨a5,c5,rfl,hb,hl5,_⟩;have hS0:=hS0.trans (Below.mono hb hS0.size);refine ⟨_,rfl,?_⟩;go_simp;refine hK _ _ hS0 ?_;clear hK K;refine jP 21 (fun K hK=>?_);refine yaf 108 #[.slice a1 (eroK x.s.g x.s.d).length c1,.slice a5 SW.length c5] (by go_simp) ?_;refine (HIn.out _ _ _ (HD.out.1.grow hS0) hl5).mono ?_;rintro e u6 ⟨a6,c6,rfl,hb,hl6,ht6⟩;have hS0:=hS0.trans (Below.mono hb hS0.size);refine ⟨_,rfl,?_⟩;go_simp;refine hK _ _ hS0 ?_;clear hK K;refine ⟨by kernel_rfl,?_⟩;simp only [List.drop_succ_cons,List.drop_zero];have HO:=jX (HO.out.later hS0);have HP:=jX (HP.out.grow hS0);have HD:=jX (And.intro hl6 ht6);clear hS0 hb hl6 ht6 hl5 HSw HIn HA1 HA2 HQc HQl Bgb Hat;go_upto_region 9 with (fail)
   refine wp_region_lit ?_;refine wV (fun _ _=>?_);go_simp;go_step;refine wV (fun _ _=>?_);go_simp;go_step;obtain⟨ub,e6,v4,u4,hr4,ho4,F,hF1,hF2,hk4⟩:=OBP.app ⟨a6,c6,RK⟩ HO.out (by have:=Hn.out;omega);refine yao (v:=.slice (some ⟨World.heap u6 |>.size,0,none⟩) 1 1) (by rfl) (yaJ 67 1 #[(0,.tmp 55)] #[(0,PerV.v ⟨a6,c6,RK⟩)] _ rfl (by simp only [List.map_toArray,List.map_cons,List.map_nil];rfl) (yip _ _)) (fun K hK=>?_);rw [e6];clear e6;go_simp;go_step;refine yao (by rfl) (yaQ (.tmp 54) (.tmp 56) 67 _ _ _ rfl rfl rfl hr4) (fun _ _=>?_);go_simp;go_step;clear hr4;have HN4:=jX ho4;have hFt:∀ g∈F,∃ cur,(World.heap u6)[g]? = some (.cells cur 22):=fun g hg=>OBP.ty HO.out g (hF2 g hg);have HP4:=jX ((HP.out.ty l_ne hFt hk4).snoc (x:=⟨a6,c6,RK⟩) (HD.out.1.tyE l_ne HD.out.2 hFt hk4));obtain⟨no,nc,rfl⟩:=ho4.form;clear ho4 hFt hF1 hF2 hk4;go_wp2_with fail;go_roundw
   case rel =>
    refine ⟨k+1,vs++[⟨a6,c6,RK⟩],by omega,congrArg (Value.int .i64) (by omega),HN4.out,HP4.out,by rw [List.length_append];exact congrArg (· + 1) Hn.out,fun i hi=>?_⟩;by_cases hik:i=k
    ·subst hik
     rw [List.getElem_append_right (by have:=Hn.out;omega)];simp only [Hn.out,Nat.sub_self,List.getElem_cons_zero];exact HFin.out
    rw [List.length_append] at hi;simp only [List.length_cons,List.length_nil] at hi;have hil:i<vs.length:=by have:=Hn.out;omega
    rw [List.getElem_append_left hil];exact HF.out i hil
   case measure=>simp [intOf];omega
  have hkn:k=l.length:=by omega
  subst hkn;obtain⟨go,co,hgo,hgb,hot⟩:=OBP.outT HO.out HP.out (by have:=Hn.out;omega);have HT:=jX hot;have HB:=jX HO.out.keep;injection hgo with hgo _ hco;subst hgo hco;clear hot;have hn:=Hn.out;go_wp2_with fail;go_ret
  exact ⟨go,_,vs,rfl,HB.out,hgb,HT.out,hn,HF.out⟩
end
section
open Classical
theorem LivT.split {w w':World} {n:Nat} {F:Nat→List (Iv K)} {e:Ending} (h:LivT w n F e w'):∃ g c vs,e = .returned (.slice (some ⟨g,0,none⟩) n c)∧Below w.heap.size w w'∧w.heap.size≤g∧OutT w' g vs∧vs.length=n∧∀ i (h:i<vs.length),vs[i].d=F i:=h
theorem rlive_c (l:List StV) (hg:Good (stS l)) (h1:0<l.length) (h4:l.length≤4) (w:World) (sv:Value) (hr:StR w sv l) :
  Calls prog 44 #[sv] w (LivT w l.length (livAt (sAt (stS l)) l.length)):=by
 have HR:=jX hr;have HG:=jX hg;have HP:=jX (yjr l hg h1 h4 w sv hr);obtain⟨ao,ac,rfl⟩:=hr.form;clear hr hg;have hw2:IntKind.i64.wrap ((l.length:Int)-2)=(l.length:Int)-2:=IntWalk.i64_in _ (by omega);go_enter func44,ntmps44
 go_wp2_with fail;refine HP.out.mono ?_;intro e w1 hp1;obtain⟨g0,c0,vs,rfl,hb1,hg0,ho,hn,hF⟩:=LivT.split hp1;dsimp only;have HB1:=jX hb1;have HO1:=jX ho;have HF1:=jX hF;have Hn:=jX hn;clear hb1 HP ho hF hp1 hn;go_wp2_with fail;go_loopw [4] (fun c wr=>∃ (k:Nat) (n:Int) (vs:List PerV),k≤l.length-1∧c = .int .i64 n∧n=(l.length:Int)-2-(k:Int)∧Below w.heap.size w wr∧OutT wr g0 vs∧vs.length=l.length∧∀ i (h:i<vs.length),vs[i].d=if l.length-1-k≤i then livS (sAt (stS l)) l.length (l.length-1-i) else rchS (sAt (stS l)) i) (fun c _=>(intOf c+1).toNat)
 case atStart =>
  refine ⟨0,_,vs,Nat.zero_le _,rfl,by simp,HB1.out,HO1.out,Hn.out,fun i h=>?_⟩;rw [HF1.out i h];split
  ·have:i=l.length-1:=by have:=Hn.out;omega
   subst this;rw [Nat.sub_self];rfl
  rfl
 case round =>
  obtain⟨k,n,vs,hk,rfl,hnn,hb,ho,hn,hF⟩:=hrel;have HB:=jX hb;have HO:=jX ho;have HF:=jX hF;have Hn:=jX hn;clear hb ho hF HB1 HO1 HF1 hn;by_cases hlt:k<l.length-1
  ·obtain⟨j,hj⟩:∃ j,j=l.length-2-k:=⟨_,rfl⟩
   obtain⟨m,hm⟩:∃ m,m=j+1:=⟨_,rfl⟩;obtain rfl:n=(j:Int):=by omega
   have hw3:IntKind.i64.wrap ((j:Int)+1)=(m:Int):=by rw [show (j:Int)+1=(m:Int) by omega];exact IntWalk.i64_in _ (by omega)
   have hw1:IntKind.i64.wrap ((j:Int)-1)=(j:Int)-1:=IntWalk.i64_in _ (by omega);have hjl:j<l.length:=by omega
   have hml:m<l.length:=by omega
   have hj1:(j:Int)<(l.length:Int):=by omega
   have hm1:(m:Int)<(l.length:Int):=by omega
   have hj0:(0:Int)≤(j:Int):=by omega
   have hm0:(0:Int)≤(m:Int):=by omega
   have hjm:j≠m:=by omega
   have hl2:l.length-2-k=j:=hj.symm;have hl3:l.length-1-m=k:=by omega
   have hl4:¬ l.length-1-k≤j:=by omega
   have hl5:l.length-1-k≤m:=by omega
   have hl6:l.length-1-j=k+1:=by omega
   have Hj:=jX hj;have Hm:=jX hm;have Hnn:=jX hnn;have Hl:=jX (And.intro hl2 (And.intro hl3 (And.intro hl4 (And.intro hl5 hl6))));clear hj hm hl2 hl3 hl4 hl5 hl6 hnn;obtain⟨g,o,rfl,hg,hat⟩:=StR.elem (HR.out.grow HB.out) m hml;obtain⟨gy,oy,hge,hgy,haty⟩:=StR.elem (HR.out.grow HB.out) j hjl;obtain⟨rfl,rfl⟩:gy=g∧oy=o:=by injection hge with hge;injection hge with h1 h2;exact ⟨h1.symm,h2.symm⟩
   have hsm:=yaY hml;have hsj:=yaY hjl;have HSab:=jX ((HG.out.pos _ (List.mem_map_of_mem (List.getElem_mem hml))).2);have HSt:=jX (StsOk.at _ HG.out.ok);generalize l[m]=x at *;generalize l[j]=y at *;obtain⟨p,hp⟩:∃ p,oy+m*13=p:=⟨_,rfl⟩;obtain⟨pj,hpj⟩:∃ pj,oy+j*13=pj:=⟨_,rfl⟩;rw [hp] at hat;rw [hpj] at haty;have Hat:=jX hat;have Haty:=jX haty;clear hat haty hge hg;have fyg:FitQ 8 y.s.g:=by rw [← hsj];exact HSt.out.g j
   have fxa:FitQ 8 x.s.a:=by rw [← hsm];exact HSt.out.a m
   have fxb:FitQ 8 x.s.b:=by rw [← hsm];exact HSt.out.b m
   have HA1:=jX (fun u=>QAdd_c y.s.g x.s.a (fyg.mono (by decide)) (fxa.mono (by decide)) u);have HA2:=jX (fun u=>QAdd_c y.s.g x.s.b (fyg.mono (by decide)) (fxb.mono (by decide)) u);have HN1:=jX (QNeg_c (y.s.g+x.s.a));have HN2:=jX (QNeg_c (y.s.g+x.s.b));rw [yam,yam,yam] at HA1 HA2;rw [yam,yam] at HN1 HN2;have fa:FitQ 24 (-(y.s.g+x.s.a)):=(ybU fyg fxa).neg;have fb:FitQ 24 (-(y.s.g+x.s.b)):=(ybU fyg fxb).neg;have fab : -(y.s.g+x.s.b) ≤ -(y.s.g+x.s.a):=by have:=HSab.out;grind
   have HFs:=(yjb HSt.out.few h4 k (by omega)).swp (a:=-(y.s.g+x.s.b)) (b:=-(y.s.g+x.s.a));have HSw:=jX (fun u v (h:Ls u [(v,livS (sAt (stS l)) l.length k)])=>h.rsweep (k0:=253+25*k) (by omega) (ygI HSt.out h4 k (by omega)) fb fa fab (le10 HFs (yaq _ _ _) (by omega)))
   have hfin:combK 2 (rchS (sAt (stS l)) j) (swpK (-(y.s.g+x.s.b)) (-(y.s.g+x.s.a)) (livS (sAt (stS l)) l.length k))=livS (sAt (stS l)) l.length (k+1):=by
    show _=combK 2 _ _
    rw [Hl.out.1,← Hm.out,hsm,hsj,Rat.add_comm x.s.b,Rat.add_comm x.s.a]
   have HIn:=jX (fun u a b (h:Ls u [(a,rchS (sAt (stS l)) j)]) (h3:Ls u [(b,swpK (-(y.s.g+x.s.b)) (-(y.s.g+x.s.a)) (livS (sAt (stS l)) l.length k))])=>by
    have:=h.interT h3 (by rw [hfin];exact le10 (ygh HSt.out.few h1 h4 (k+1) (by omega)) (yeD _) (by omega));rw [hfin] at this
    exact this)
   have hvj:j<vs.length:=by have:=Hn.out;omega
   have hvm:m<vs.length:=by have:=Hn.out;omega
   have qj:=HO.out.cell j hvj;have qm:=HO.out.cell m hvm;unfold PerV.v at qj qm;rw [HF.out j hvj,if_neg Hl.out.2.2.1] at qj;rw [HF.out m hvm,if_pos Hl.out.2.2.2.1,Hl.out.2.1] at qm;have HQj:=jX qj;have HQm:=jX qm;clear fyg fxa fxb fa fb fab HFs hfin qj qm HSt HSab hsm hsj;generalize vs[j].a=ja at *;generalize vs[j].c=jc at *;generalize vs[m].a=ma at *;generalize vs[m].c=mc at *;generalize livS (sAt (stS l)) l.length k=R at *;generalize rchS (sAt (stS l)) j=E at *;generalize swpK (-(y.s.g+x.s.b)) (-(y.s.g+x.s.a)) R=SW at *;obtain⟨RK,hRK⟩:∃ RK,livS (sAt (stS l)) l.length (k+1)=RK:=⟨_,rfl⟩;rw [hRK] at HIn;have HFin:=jX hRK;clear hRK;generalize -(y.s.g+x.s.a)=NA at *;generalize -(y.s.g+x.s.b)=NB at *;generalize y.s.g+x.s.a=QA at *;generalize y.s.g+x.s.b=QB at *;have hv1:(j:Int)<(vs.length:Int):=by omega
   have hv2:(m:Int)<(vs.length:Int):=by omega
   go_upto_region 5 with (fail)
   refine yaA 26 [(5,28),(6,28)] (fun _=>.cells #[.bool false,.string ⟨#[]⟩,.bool false,.string ⟨#[]⟩] 28) (by kernel_rfl) (by kernel_rfl) (by kernel_rfl) (fun t ht ev w o ho=>by simp at ht;subst ht;exact ybN ev w o ho) ?_;intro U hU;have HX1:=jX (Haty.out.kg hgy hU);have HX2:=jX (Hat.out.ka hgy hU);have HX3:=jX (Hat.out.kb hgy hU);have Q1:Hid (∀ m:KW U,Calls prog 106 #[.agg (rC y.s.g),.agg (rC x.s.a)] (Wk U m) fun e w'=>e = .returned (.agg (rC QA))∧∃ m,w'=Wk U m):=fun m=>qk m (HA1.out _);have Q2:Hid (∀ m:KW U,Calls prog 106 #[.agg (rC y.s.g),.agg (rC x.s.b)] (Wk U m) fun e w'=>e = .returned (.agg (rC QB))∧∃ m,w'=Wk U m):=fun m=>qk m (HA2.out _);simp only [List.map_cons,List.map_nil,unal,isAl,if_true,if_false,Bool.false_eq_true,List.take_succ_cons,List.take_zero]
   repeat (first
    | go_big_quiet_skip
    | (go_big_quiet_want;first
     | (refine yaj _ _ _ (.agg (rC y.s.g)) rfl rfl (by rintro _ ⟨m,rfl⟩;exact HX1.out m) ?_;go_simp;go_big_quiet_on)|(refine yaj _ _ _ (.agg (rC x.s.a)) rfl rfl (by rintro _ ⟨m,rfl⟩;exact HX2.out m) ?_;go_simp;go_big_quiet_on)|(refine yaj _ _ _ (.agg (rC x.s.b)) rfl rfl (by rintro _ ⟨m,rfl⟩;exact HX3.out m) ?_;go_simp;go_big_quiet_on)
     | (go_big_quiet_op;first|go_big_quiet_on|go_big_quiet_call (first
      | (go_at_call 106;with_reducible exact (Q1).out _)|(go_at_call 106;with_reducible exact (Q2).out _)))))
   refine wpQuiet_nil ?_;intro p hp1 hp2 w3 hk3 hz;have b5:=hz (5,28) (by simp);have b6:=hz (6,28) (by simp);have n56:p 5≠p 6:=fun h=>absurd (hp2 5 (by simp) 6 (by simp) h) (by decide);have h5:=hp1 5 (by simp);have h6:=hp1 6 (by simp);simp only [List.map_cons,List.map_nil,pl,List.drop_succ_cons,List.drop_zero];dsimp only at b5 b6;generalize p 5=g5 at *;generalize p 6=g6 at *;clear hz hp1 hp2 Q1 Q2 HX1 HX2 HX3 hU U p;refine wR g5 (rC QA) b5 (by exact q_size) (by rfl) (yaK _) (fun w4 b54 k4 _ _=>?_);go_simp;go_step;have b64:=k4.heap b6 (by simp;exact fun h=>n56 h.symm);refine wR g6 (rC QB) b64 (by exact q_size) (by rfl) (yaK _) (fun w5 b65 k5 _ _=>?_);go_simp;go_step;have B5:=jX (k5.heap b54 (by simp;exact n56));have B6:=jX b65;have hk4:=show Keep [] wr w4 from hk3.trans k4 (by simp;exact h5)
   have hbb:=(show Keep [] wr w5 from hk4.trans k5 (by simp;exact h6)).bz
   have HB:=jX (HB.out.trans (Below.mono hbb HB.out.size));have HQj:=jX (And.intro ((World.cell?_of_block (hbb.block g0 HO.out.lt)).trans HQj.out.1) (HQj.out.2.grow hbb));have HQm:=jX (And.intro ((World.cell?_of_block (hbb.block g0 HO.out.lt)).trans HQm.out.1) (HQm.out.2.grow hbb));have HO:=jX (HO.out.grow hbb);clear hbb hk4 k4 k5 b5 b6 b54 b64 b65 n56 hk3 h5 h6 HA1 HA2 Haty Hat;go_upto_region 6 with (fail)
   refine yad (S:=fun u=>Below w5.heap.size w5 u) 17 (by kernel_rfl) (by kernel_rfl) (fun _ _ d _ _ h=>by cases d<;>exact h) ?_;have hS0:=(Keep.drew [] w5).bz;generalize World.drew w5=u2 at *;refine tV 0 hS0 (fun _ _=>?_);go_simp;go_step;refine tV 1 hS0 (fun _ _=>?_);go_simp;go_step;refine tV 2 hS0 (fun _ _=>?_);go_simp;go_step;refine tV 3 hS0 (fun _ _=>?_);go_simp;go_step;refine tV 4 hS0 (fun _ _=>?_);go_simp;go_step;refine' jG (v:=_) 5 hS0 (fun w hw=>?hla5) (fun K hK=>?kla5)
   case hla5=>(have q:=(World.cell?_of_block (hw.block g0 HO.out.lt)).trans HQj.out.1;go_simp;try rfl)
   go_simp;go_step;refine tV 6 hS0 (fun _ _=>?_);go_simp;go_step;refine tV 7 hS0 (fun _ _=>?_);go_simp;go_step;refine tV 8 hS0 (fun _ _=>?_);go_simp;go_step;refine tV 9 hS0 (fun _ _=>?_);go_simp;go_step;refine' jG (v:=_) 10 hS0 (fun w hw=>?hla10) (fun K hK=>?kla10)
   case hla10=>(have q:=(World.cell?_of_block (hw.block g0 HO.out.lt)).trans HQm.out.1;go_simp;try rfl)
   go_simp;go_step;refine jG (v:=.agg (rC QB)) 11 hS0 (fun w hw=>yai _ _ ⟨g6,0,none⟩ _ rfl rfl (ybm ((hw.block g6 (yaa B6.out)).trans B6.out))) (fun _ _=>?_);go_simp;go_step;refine jG (v:=.agg (rC QA)) 13 hS0 (fun w hw=>yai _ _ ⟨g5,0,none⟩ _ rfl rfl (ybm ((hw.block g5 (yaa B5.out)).trans B5.out))) (fun _ _=>?_);go_simp;go_step;refine uQ 12 60 #[.agg (rC QB)] hS0 (HN2.out _) (fun u3 hS0 _ _ _=>?_);go_simp;go_step;refine uQ 14 60 #[.agg (rC QA)] hS0 (HN1.out _) (fun u4 hS0 _ _ _=>?_);go_simp;go_step;refine jP 15 (fun K hK=>?_);refine yaf 61 #[.slice ma R.length mc,.agg (rC NB),.agg (rC NA)] (by go_simp) ?_;refine (HSw.out _ _ (HQm.out.2.grow hS0)).mono ?_;rintro e u5 ⟨a5,c5,rfl,hb,hl5,_⟩;have hS0:=hS0.trans (Below.mono hb hS0.size);refine ⟨_,rfl,?_⟩;go_simp;refine hK _ _ hS0 ?_;clear hK K;refine jP 16 (fun K hK=>?_);refine yaf 108 #[.slice ja E.length jc,.slice a5 SW.length c5] (by go_simp) ?_;refine (HIn.out _ _ _ (HQj.out.2.grow hS0) hl5).mono ?_;rintro e u6 ⟨a6,c6,rfl,hb,hl6,ht6⟩;have hS0:=hS0.trans (Below.mono hb hS0.size);refine ⟨_,rfl,?_⟩;go_simp;refine hK _ _ hS0 ?_;clear hK K;refine ⟨by kernel_rfl,?_⟩;simp only [List.drop_succ_cons,List.drop_zero];have HB8:=jX (HB.out.trans (Below.mono hS0 HB.out.size));have HO8:=jX (HO.out.grow hS0);have HD:=jX (And.intro hl6 ht6);clear hS0 hb hl6 ht6 hl5 HSw HIn HN1 HN2 HQj HQm B5 B6 HB HO;obtain⟨W9,eW,ho9,hk9⟩:=HO8.out.set j hvj (x:=⟨a6,c6,RK⟩) HD.out;rw [show PerV.v ⟨a6,c6,RK⟩ = .slice a6 RK.length c6 from rfl] at eW
   obtain⟨cur,hcur,_⟩:=HO8.out.blk;have q0:=(HO8.out.cell j hvj).1;unfold PerV.v at q0;have f0:=yak hcur;have l0:=yaa hcur;have HB9:=jX (HB8.out.trans (hk9.below (by simp;omega) HB8.out.size));have HO9:=jX ho9;clear hk9 ho9 HB8 HO8 HD hcur;go_wp2_with fail;go_roundw
   case rel =>
    have hjo:=Hj.out;refine ⟨k+1,_,_,by omega,rfl,by omega,HB9.out,HO9.out,by rw [List.length_set];exact Hn.out,fun i hi=>?_⟩;by_cases hij:i=j
    ·subst hij
     rw [List.getElem_set_self,if_pos (by omega),Hl.out.2.2.2.2];exact HFin.out.symm
    rw [List.getElem_set_ne (by omega),HF.out i (by rw [List.length_set] at hi;exact hi)];by_cases hc:l.length-1-k≤i
    ·rw [if_pos hc,if_pos (by omega)]
    rw [if_neg hc,if_neg (by omega)]
   case measure=>simp [intOf]
  have hkn:k=l.length-1:=by omega
  obtain rfl:n = -1:=by omega
  have hF2:∀ i (h:i<vs.length),vs[i].d=livAt (sAt (stS l)) l.length i:=fun i hi=>by
   have:=Hn.out;rw [HF.out i hi,if_pos (by omega)];rfl
  have HF2:=jX hF2;clear hF2 HF hkn hnn;go_wp2_with fail;go_ret
  exact ⟨g0,c0,vs,rfl,HB.out,hg0,HO.out,Hn.out,HF2.out⟩
end
end Go.Proofs.YtpgffjjpiafhpaaGreatDoor
