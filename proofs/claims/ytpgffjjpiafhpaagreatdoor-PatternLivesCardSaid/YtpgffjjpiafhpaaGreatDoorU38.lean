/- Parts of a proof: Fv Fw Fy Fz Bo. -/
import Derived.Laws.AppendOwnNone
import Derived.Deep.DeepCutAuto
import Derived.Deep.Cut
import Derived.Deep.CutRange
import Derived.IntWalk
import Derived.Test.YtpgffjjpiafhpaaGreatDoorU37
import Derived.Test.YtpgffjjpiafhpaaGreatDoorU15
import Derived.Test.YtpgffjjpiafhpaaGreatDoorU35
import Derived.Test.YtpgffjjpiafhpaaGreatDoorU08
import Derived.Test.YtpgffjjpiafhpaaGreatDoorU03
import Derived.Test.YtpgffjjpiafhpaaGreatDoorU05
import Derived.Test.YtpgffjjpiafhpaaGreatDoorU04
import Derived.Test.YtpgffjjpiafhpaaGreatDoorU09
import Derived.Test.YtpgffjjpiafhpaaGreatDoorU12
import Derived.Test.YtpgffjjpiafhpaaGreatDoorU18
set_option linter.unusedVariables false
set_option linter.unusedSimpArgs false
set_option maxRecDepth 100000
set_option maxHeartbeats 8000000
namespace Go.Proofs.YtpgffjjpiafhpaaGreatDoor
open Go.RowKit Tryz
section
open Classical
theorem ty_neE {e:TypeId} (he:e≠32) {w:World} {v:Value} (h:TyI w v) {g:Nat} {cur:Array Value} (hg:w.heap[g]? = some (.cells cur e)):v.ownBlock≠some g:=fun hv=>by
 obtain⟨c2,h2⟩:=h g hv;rw [hg] at h2;injection h2 with h2;injection h2 with _ h3;exact he h3
theorem IvR.laterE {e:TypeId} (he:e≠32) {w w':World} {v:Value} {l:List (Iv K)} (h:IvR w v l) (ht:TyI w v) {F:List Nat} (hF:∀ g∈F,∃ cur,w.heap[g]? = some (.cells cur e)) (hk:Keep F w w'):IvR w' v l∧TyI w' v:=by
 refine ⟨?_,fun g hg=>?_⟩
 ·rcases h with h|⟨g,o,c,rfl,hc,hg,hx⟩
  ·exact .inl h
  refine .inr ⟨g,o,c,rfl,hc,Nat.lt_of_lt_of_le hg hk.size,fun i v hv=>?_⟩;rw [World.cell?_of_block (hk.block g hg (fun hm=>by obtain⟨cur,hc2⟩:=hF g hm;exact ty_neE he ht hc2 rfl))];exact hx i v hv
 obtain⟨cur,hc⟩:=ht g hg;exact ⟨cur,hk.heap hc (fun hm=>by obtain⟨c2,hc2⟩:=hF g hm;exact ty_neE he ht hc2 hg)⟩
structure PerV where
 a:Option Addr
 c:Nat
 d:List (Iv K)
def PerV.v (x:PerV):Value:=.slice x.a x.d.length x.c
def PerV.cells (x:PerV):List Value:=[x.v]
theorem PerV.len (x:PerV):x.cells.length=1:=rfl
theorem PerV.one (x:PerV):∀ v∈x.cells,v.oneCell'=true:=by
 intro v hv;simp only [PerV.cells,List.mem_singleton] at hv;subst hv;rfl
def PersP (w:World) (vs:List PerV):Prop:=∀ x∈vs,Ls w [(x.v,x.d)]∧TyI w x.v
theorem PersP.nil (w:World):PersP w []:=fun _ h=>by cases h
theorem PersP.grow {w w':World} {vs:List PerV} (h:PersP w vs) (hb:Below w.heap.size w w'):PersP w' vs:=fun x hx=>⟨(h x hx).1.grow hb,(h x hx).2.grow hb⟩
theorem Ls.tyE {e:TypeId} (he:e≠32) {w w':World} {v:Value} {l:List (Iv K)} {F:List Nat} (h:Ls w [(v,l)]) (ht:TyI w v) (hF:∀ g∈F,∃ cur,w.heap[g]? = some (.cells cur e)) (hk:Keep F w w'):Ls w' [(v,l)]∧TyI w' v:=by
 have h0:=h _ (List.mem_singleton.2 rfl);have h1:=IvR.laterE he h0.1 ht hF hk;refine ⟨fun p hp=>?_,h1.2⟩;rw [List.mem_singleton] at hp;subst hp;exact ⟨h1.1,h0.2⟩
theorem PersP.ty {e:TypeId} (he:e≠32) {w w':World} {vs:List PerV} {F:List Nat} (h:PersP w vs) (hF:∀ g∈F,∃ cur,w.heap[g]? = some (.cells cur e)) (hk:Keep F w w'):PersP w' vs:=fun x hx=>(h x hx).1.tyE he (h x hx).2 hF hk
abbrev OBP (w0 w:World) (v:Value) (vs:List PerV):Prop:=OB PerV.cells 22 1 w0 w v vs
theorem l_ne:22≠32:=by decide
theorem OBP.ty {w0 w:World} {v:Value} {vs:List PerV} (h:OBP w0 w v vs):∀ g,v.ownBlock=some g→∃ cur,w.heap[g]? = some (.cells cur 22):=fun g hg=>by
 rcases h.row.2 with ⟨hv,_⟩|⟨b,cap,cur,hv,_,hb,_⟩
 ·rw [hv] at hg;cases hg
 rw [hv] at hg;injection hg with hg;subst hg;exact ⟨cur,hb⟩
theorem OBP.app {w0 w:World} {v:Value} {vs:List PerV} (t:PerV) (h:OBP w0 w v vs) (h9:vs.length≤1000000) :
  ∃ u,w.alloc (.cells t.cells.toArray 22)=u∧∃ v4 u4,(Builtin.append_ #[67,67] 67 #[v,.slice (some ⟨w.heap.size,0,none⟩) 1 1]).run prog u = .ok v4 u4∧OBP w0 u4 v4 (vs++[t])∧∃ F,(∀ g,v.ownBlock=some g→g∈F)∧(∀ g∈F,v.ownBlock=some g)∧Keep F w u4:=by
 have hk:=Keep.alloc [] w (.cells t.cells.toArray 22)
 have hx:RowE PerV.cells (w.alloc (.cells t.cells.toArray 22)) (.slice (some ⟨w.heap.size,0,none⟩) 1 1) [t]:=.inr ⟨w.heap.size,0,1,rfl,Nat.le_refl _,by simp,fun i v hv=>by
  rw [Nat.zero_add,yab (World.alloc_heap_new w (.cells t.cells.toArray 22))];refine (List.getElem?_toArray ..).trans ?_
  simpa using hv⟩
 obtain⟨b,hbs,hoe,hback⟩:=(h.later hk.bz).oe;obtain⟨i,hi,hz,hs,hbt⟩:=ycz infoL;obtain⟨v4,u4,hr4,ho4,hn4,hk4⟩:=OE.app (P:=prog) (bytes:=24) (ty:=67) underlying67 hi hz hs hbt (by rfl) (by decide) PerV.len PerV.one hoe (.inr (by simp)) hx (by unfold maxLen;simp;omega) (by simp;omega);refine ⟨_,rfl,v4,u4,hr4,hback _ _ _ ho4,v.ownBlock.toList,fun g hg=>by rw [hg];simp,fun g hg=>by simpa using hg,?_⟩;have:=hk4 v.ownBlock.toList (fun g hg=>by rw [hg];simp);refine ⟨this.os.trans hk.os,this.tape.trans hk.tape,this.output.trans hk.output,Nat.le_trans hk.size this.size,Nat.le_trans hk.drawn this.drawn,fun j hj hn=>?_⟩;exact (this.block j (Nat.lt_of_lt_of_le hj hk.size) hn).trans (hk.block j hj (by simp))
def RowL (w:World) (v:Value) (n:Nat) (F:Nat→List (Iv K)):Prop :=
 ∃ g c,v = .slice (some ⟨g,0,none⟩) n c∧g<w.heap.size∧∀ i,i<n→∃ a d,w.cell? ⟨g,i,none⟩=some (.slice a (F i).length d)∧Ls w [(.slice a (F i).length d,F i)]
theorem RowL.grow {w w':World} {v:Value} {n:Nat} {F:Nat→List (Iv K)} (h:RowL w v n F) (hb:Below w.heap.size w w'):RowL w' v n F:=by
 obtain⟨g,c,h1,h2,h3⟩:=h;refine ⟨g,c,h1,Nat.lt_of_lt_of_le h2 hb.size,fun i hi=>?_⟩;obtain⟨a,d,h4,h5⟩:=h3 i hi;exact ⟨a,d,(World.cell?_of_block (hb.block g h2)).trans h4,h5.grow hb⟩
theorem OutB.rowL {w:World} {g:Nat} {vs:List (Value × List (Iv K))} {F:Nat→List (Iv K)} (h:OutB w g vs) (hF:∀ i (h:i<vs.length),vs[i].2=F i) (c:Nat):RowL w (.slice (some ⟨g,0,none⟩) vs.length c) vs.length F :=
 ⟨g,c,rfl,yaa h.blk,fun i hi=>by
  obtain⟨a,d,h1,h2⟩:=h.cell i hi;rw [hF i hi] at h1 h2
  exact ⟨a,d,h1,h2⟩⟩
structure OutT (w:World) (g:Nat) (vs:List PerV):Prop where
 blk:∃ cur,w.heap[g]? = some (.cells cur 22)∧∀ i (h:i<vs.length),cur[i]? = some vs[i].v
 ps:PersP w vs
theorem OutT.grow {w w':World} {g:Nat} {vs:List PerV} (h:OutT w g vs) (hb:Below w.heap.size w w'):OutT w' g vs:=by
 obtain⟨cur,h1,h2⟩:=h.blk;exact ⟨⟨cur,(hb.block g (yaa h1)).trans h1,h2⟩,h.ps.grow hb⟩
theorem OutT.lt {w:World} {g:Nat} {vs:List PerV} (h:OutT w g vs):g<w.heap.size:=by
 obtain⟨cur,h1,_⟩:=h.blk;exact yaa h1
theorem OutT.cell {w:World} {g:Nat} {vs:List PerV} (h:OutT w g vs) (i:Nat) (hi:i<vs.length):w.cell? ⟨g,i,none⟩=some vs[i].v∧Ls w [(vs[i].v,vs[i].d)]:=by
 obtain⟨cur,h1,h2⟩:=h.blk;exact ⟨by rw [yab h1];exact h2 i hi,(h.ps _ (List.getElem_mem hi)).1⟩
theorem OutT.rowL {w:World} {g:Nat} {vs:List PerV} {F:Nat→List (Iv K)} (h:OutT w g vs) (hF:∀ i (h:i<vs.length),vs[i].d=F i) (c:Nat):RowL w (.slice (some ⟨g,0,none⟩) vs.length c) vs.length F :=
 ⟨g,c,rfl,h.lt,fun i hi=>by
  obtain⟨h1,h2⟩:=h.cell i hi;unfold PerV.v at h1 h2;rw [hF i hi] at h1 h2
  exact ⟨_,_,h1,h2⟩⟩
theorem OutT.set {w:World} {g:Nat} {vs:List PerV} (h:OutT w g vs) (i:Nat) (hi:i<vs.length) {x:PerV} (hx:Ls w [(x.v,x.d)]∧TyI w x.v) :
  ∃ W,w.setCell ⟨g,i,none⟩ x.v=W∧OutT W g (vs.set i x)∧Keep [g] w W:=by
 obtain⟨cur,h1,h2⟩:=h.blk;have his:i<cur.size:=(Array.getElem?_eq_some_iff.1 (h2 i hi)).1;obtain⟨W,e,hb,hk⟩:=ybz (v:=x.v) h1 his
 have hF:∀ b∈[g],∃ cur,w.heap[b]? = some (.cells cur 22):=fun b hb=>by
  rw [List.mem_singleton] at hb;subst hb;exact ⟨cur,h1⟩
 refine ⟨W,e,⟨⟨_,hb,fun j hj=>?_⟩,fun y hy=>?_⟩,hk⟩
 ·rw [List.length_set] at hj
  rw [Array.getElem?_setIfInBounds];by_cases hij:i=j
  ·subst hij
   rw [if_pos rfl,if_pos his,List.getElem_set_self]
  rw [if_neg hij,List.getElem_set_ne hij];exact h2 j hj
 rcases List.mem_or_eq_of_mem_set hy with hy|rfl
 ·exact h.ps.ty l_ne hF hk y hy
 exact hx.1.tyE l_ne hx.2 hF hk
end
section
open Classical
def TPost (w:World) (l:List (Iv K)) (e:Ending) (w':World):Prop:=∃ a c,e = .returned (.slice a l.length c)∧Below w.heap.size w w'∧Ls w' [(.slice a l.length c,l)]∧TyI w' (.slice a l.length c)
theorem yiz {w:World} {m:List (Iv K)} (hn:Norm m) (h9:m.length≤10000) {f:Nat} {args:Array Value} (hc:Calls prog f args w fun e w'=>∃ v,e = .returned v∧IvR w' v m∧Below w.heap.size w w'∧TyI w' v):Calls prog f args w (TPost w m) :=
 hc.mono fun e w' ⟨v,he,hv,hk,ht⟩=>by
  obtain⟨a,c,rfl,_⟩:=hv.form;exact ⟨a,c,he,hk,(Ls.nil _).cons hv hn h9,ht⟩
theorem Ls.interT {w:World} {v u:Value} {a b:List (Iv K)} (h:Ls w [(v,a)]) (k:Ls w [(u,b)]) (h9:(combK 2 a b).length≤10000):Calls prog 108 #[v,u] w (TPost w (combK 2 a b)):=by
 have h0:=h _ (List.mem_singleton.2 rfl);have k0:=k _ (List.mem_singleton.2 rfl);exact yiz (yau _ _ _) h9 ((Intersect_pT a b h0.2.1.val k0.2.1.val w v u h0.1 k0.1 h0.2.2 k0.2.2).mono fun e w' ⟨v,h1,h2,h3,h4⟩=>⟨v,h1,h2,h3.bz,h4⟩)
theorem Ls.rsweep {w:World} {v:Value} {l:List (Iv K)} (h:Ls w [(v,l)]) {a b:Rat} {k0:Nat} (hk0:k0≤70000) (hs:∀ s∈l,SmI k0 s) (ha:FitQ 24 a) (hb:FitQ 24 b) (hab:a≤b) (h9:(swpK a b l).length≤10000) :
  Calls prog 61 #[v,.agg (rC a),.agg (rC b)] w (TPost w (swpK a b l)):=by
 have h0:=h _ (List.mem_singleton.2 rfl);exact yiz (yau _ _ _) h9 (rsweepT_c l a b k0 hk0 hs h0.2.1.val ha hb hab w v h0.1 h0.2.2)
def LivT (w:World) (n:Nat) (F:Nat→List (Iv K)) (e:Ending) (w':World):Prop :=
 ∃ g c vs,e = .returned (.slice (some ⟨g,0,none⟩) n c)∧Below w.heap.size w w'∧w.heap.size≤g∧OutT w' g vs∧vs.length=n∧∀ i (h:i<vs.length),vs[i].d=F i
end
section
open Classical
def RPost (w:World) (n:Nat) (F:Nat→List (Iv K)) (e:Ending) (w':World):Prop:=∃ g c,e = .returned (.tuple #[.slice (some ⟨g,0,none⟩) n c,.int .i64 0])∧RowL w' (.slice (some ⟨g,0,none⟩) n c) n F∧Below w.heap.size w w'
theorem LivP.row {w:World} {n:Nat} {F:Nat→List (Iv K)} {f:Nat} {args:Array Value} (h:Calls prog f args w (LivP w n F)):Calls prog f args w (RPost w n F) :=
 h.mono fun e w' ⟨g,vs,he,hb,_,ho,hn,hF⟩=>by
  have:=ho.rowL hF n;rw [hn] at this;exact ⟨g,n,he,this,hb⟩
def DPost (w:World) (n:Nat) (F:Nat→List (Iv K)) (e:Ending) (w':World):Prop:=∃ g c,e = .returned (.slice (some ⟨g,0,none⟩) n c)∧RowL w' (.slice (some ⟨g,0,none⟩) n c) n F∧Below w.heap.size w w'
theorem LivT.row {w:World} {n:Nat} {F:Nat→List (Iv K)} {f:Nat} {args:Array Value} (h:Calls prog f args w (LivT w n F)):Calls prog f args w (DPost w n F) :=
 h.mono fun e w' ⟨g,c,vs,he,hb,_,ho,hn,hF⟩=>by
  have:=ho.rowL hF c;rw [hn] at this;exact ⟨g,c,he,this,hb⟩
theorem RowL.get {w:World} {g n c:Nat} {F:Nat→List (Iv K)} (h:RowL w (.slice (some ⟨g,0,none⟩) n c) n F) {i:Nat} (hi:i<n):g<w.heap.size∧∃ a d,w.cell? ⟨g,i,none⟩=some (.slice a (F i).length d)∧Ls w [(.slice a (F i).length d,F i)]:=by
 obtain⟨g',c',e,h2,h3⟩:=h;injection e with e _ _;injection e with e;injection e with e _ _;subst e;exact ⟨h2,h3 i hi⟩
end
section
open Classical
theorem half_nn {n:Int} (h:0≤n):0≤half n:=by
 have h1:=ygo n;have h2:=(yaB (a:=0) (b:=n)).2 h;rw [show ((0:Int):Rat)=0 from rfl] at h2
 grind
theorem evS_pos (i:Nat) (e:EvA):0≤(evS i e).g∧(evS i e).a≤(evS i e).b:=by
 unfold evS;dsimp only;refine ⟨half_nn (by omega),?_⟩;have h:=half_nn (n:=((e.r % 12:Nat):Int)) (by omega);split
 ·exact Rat.le_refl
 grind
theorem yjb (l:List EvA):Good (yaW l):=by
 refine ⟨yiU l,by rw [ydp];omega,fun s hs=>?_,fun h=>?_⟩
 ·obtain⟨i,e,rfl⟩:=ydf hs
  exact evS_pos i e
 have h1:(yaW l)[0]=evS 0 ((l.take 4)[0]'(by have:=h;unfold yaW at this;rw [List.length_mapIdx] at this;exact this)):=List.getElem_mapIdx ..;rw [h1];exact ⟨rfl,rfl⟩
def SPost (l:List EvA) (w:World) (e:Ending) (w':World):Prop:=∃ a c svs,e = .returned (.slice a svs.length c)∧StR w' (.slice a svs.length c) svs∧Good (stS svs)∧stS svs=yaW l∧svs.length=min 4 l.length∧Below w.heap.size w w'
theorem Steps_s (l:List EvA) (w:World) (sv:Value) (hr:EvsAt w sv l):Calls prog 38 #[sv] w (SPost l w) :=
 (Steps_c l w sv hr).mono fun e w' ⟨v,svs,he,hs,hst,hb⟩=>by
  obtain⟨a,c,rfl⟩:=hs.form;have hl:svs.length=min 4 l.length:=by rw [← ydp,← hst];unfold stS;rw [List.length_map]
  exact ⟨a,c,svs,he,hs,by rw [hst];exact yjb l,hst,hl,hb⟩
end
section
open Classical
theorem Ht.scale {m l b:Nat} {x:Qn} (h:Ht (m:Rat) (l:Rat) (b:Rat) x) (c d:Nat):Ht ((m*c:Nat):Rat) ((l*d:Nat):Rat) (b:Rat) x:=by
 obtain⟨i,hi⟩:=h.m;obtain⟨j,hj⟩:=h.l;refine ⟨h.ok,⟨i*c,?_⟩,⟨j*d,?_⟩,h.lo,h.hi,h.rt⟩
 ·rw [Rat.natCast_mul,← Rat.mul_assoc,hi,yak,Rat.intCast_natCast]
 rw [Rat.natCast_mul,← Rat.mul_assoc,hj,yak,Rat.intCast_natCast]
theorem nc_le {a b:Nat} (h:a≤b):(a:Rat)≤(b:Rat):=by
 have:=(yaB (a:=(a:Int)) (b:=(b:Int))).2 (by omega);rw [Rat.intCast_natCast,Rat.intCast_natCast] at this;exact this
theorem yhM (a:Nat):(0:Rat)≤(a:Rat):=by
 have:=nc_le (Nat.zero_le a);exact this
theorem ydM {a b:Rat} (h0:0≤a) (h:a≤b):a*a≤b*b:=by
 have h1:=Rat.mul_le_mul_of_nonneg_left h h0;have h2:=Rat.mul_le_mul_of_nonneg_right h (show 0≤b by grind)
 grind
theorem Ht.bd {m l:Rat} {b b':Nat} {x:Qn} (h:Ht m l (b:Rat) x) (hb:b≤b'):Ht m l (b':Rat) x:=by
 have h1:=nc_le hb;have h0:=yhM b;have h2:=ydM h0 h1;have hlo:=h.lo;have hhi:=h.hi;have hrt:=h.rt;exact ⟨h.ok,h.m,h.l,by grind,by grind,by grind⟩
def Hq (c:Nat) (q:Rat):Prop:=(∃ i:Int,q*((2:Nat):Rat)=i) ∧ -(c:Rat)≤q∧q≤(c:Rat)
theorem Hq.neg {c:Nat} {q:Rat} (h:Hq c q):Hq c (-q):=by
 obtain⟨⟨i,hi⟩,h1,h2⟩:=h;refine ⟨⟨-i,?_⟩,by grind,by grind⟩;rw [Rat.intCast_neg,← hi,Rat.neg_mul]
theorem Hq.add {c d:Nat} {q r:Rat} (h:Hq c q) (k:Hq d r):Hq (c+d) (q+r):=by
 obtain⟨⟨i,hi⟩,h1,h2⟩:=h;obtain⟨⟨j,hj⟩,k1,k2⟩:=k;refine ⟨⟨i+j,?_⟩,?_,?_⟩
 ·rw [Rat.intCast_add,← hi,← hj,Rat.add_mul]
 ·rw [Rat.natCast_add];grind
 rw [Rat.natCast_add];grind
theorem Hq.mono {c d:Nat} {q:Rat} (h:Hq c q) (k:c≤d):Hq d q:=by
 have:=nc_le k;exact ⟨h.1,by have:=h.2.1;grind,by have:=h.2.2;grind⟩
theorem Hq.half {n:Int} {c:Nat} (h1 : -(2*(c:Int))≤n) (h2:n≤2*(c:Int)):Hq c (half n):=by
 have e:=ygo n;have a1:=(yaB (a:=-(2*(c:Int))) (b:=n)).2 h1;have a2:=(yaB (a:=n) (b:=2*(c:Int))).2 h2;rw [Rat.intCast_neg,yak,Rat.intCast_natCast] at a1;rw [yak,Rat.intCast_natCast] at a2;have e2:((2:Int):Rat)=2:=rfl;rw [e2] at a1 a2;refine ⟨⟨n,e⟩,?_,?_⟩
 ·grind
 grind
theorem Hq.zero (c:Nat):Hq c 0:=⟨⟨0,by rw [Rat.zero_mul];rfl⟩,by have:=yhM c;grind,yhM c⟩
theorem Ht.mv {m l:Nat} {b c:Nat} {x:Qn} {q:Rat} (h:Ht (m:Rat) (l:Rat) (b:Rat) x) (k:Hq c q):Ht ((m*2:Nat):Rat) (l:Rat) ((b+c:Nat):Rat) (mvQ x q):=by
 obtain⟨⟨i,hi⟩,k1,k2⟩:=k;obtain⟨j,hj⟩:=h.m;have h1:=h.lo;have h2:=h.hi;have h3:=h.rt;have h4:=ydM (yhM b) (nc_le (show b≤b+c by omega))
 refine ⟨mvQ_ok h.ok q,⟨j*2+i*m,?_⟩,h.l,?_,?_,?_⟩
 ·show (x.p+q)*_=_
  rw [Rat.add_mul,Rat.natCast_mul,← Rat.mul_assoc,hj,Rat.intCast_add,yak,yak,Rat.mul_comm (m:Rat),← Rat.mul_assoc,hi,Rat.intCast_natCast];rfl
 ·show -_≤x.p+q
  rw [Rat.natCast_add];grind
 ·show x.p+q≤_
  rw [Rat.natCast_add];grind
 show x.r≤_
 exact Rat.le_trans h3 h4
theorem Ht.mv1 {l:Nat} {b c:Nat} {x:Qn} {q:Rat} (h:Ht ((2:Nat):Rat) (l:Rat) (b:Rat) x) (k:Hq c q):Ht ((2:Nat):Rat) (l:Rat) ((b+c:Nat):Rat) (mvQ x q):=by
 have h9:=h.mv k;obtain⟨⟨i,hi⟩,k1,k2⟩:=k;obtain⟨j,hj⟩:=h.m;refine ⟨h9.ok,⟨j+i,?_⟩,h9.l,h9.lo,h9.hi,h9.rt⟩;show (x.p+q)*_=_
 rw [Rat.add_mul,hj,hi,Rat.intCast_add]
def H2 (b:Nat) (x:K):Prop:=Ht ((2:Nat):Rat) ((1:Nat):Rat) (b:Rat) x.1
def HI (b:Nat) (l:List (Iv K)):Prop:=∀ i∈l,H2 b i.f.pt∧H2 b i.l.pt
theorem HI.mono {b c:Nat} {l:List (Iv K)} (h:HI b l) (k:b≤c):HI c l:=fun i hi=>⟨(h i hi).1.bd k,(h i hi).2.bd k⟩
theorem yfj {P:K→Prop} {op:Int} {a b:List (Iv K)} (ha:∀ i∈a,P i.f.pt∧P i.l.pt) (hb:∀ i∈b,P i.f.pt∧P i.l.pt):∀ i∈combK op a b,P i.f.pt∧P i.l.pt:=fun i hi=>by
 have hp:=ydF (op:=op) (PtsIn.self (a++b) |>.sub fun i hi=>List.mem_append_left _ hi) (PtsIn.self (a++b) |>.sub fun i hi=>List.mem_append_right _ hi) i hi
 have hs:∀ x∈ptsL (a++b),P x:=fun x hx=>by
  obtain⟨j,hj,h⟩:=ycg.1 hx
  have hj:P j.f.pt∧P j.l.pt:=by
   rcases List.mem_append.1 hj with hj|hj
   ·exact ha j hj
   exact hb j hj
  rcases h with rfl|rfl
  ·exact hj.1
  exact hj.2
 exact ⟨hs _ hp.1,hs _ hp.2⟩
theorem HI.comb {b:Nat} {op:Int} {l m:List (Iv K)} (h:HI b l) (k:HI b m):HI b (combK op l m):=yfj h k
theorem HI.norm {b:Nat} {l:List (Iv K)} (h:HI b l):HI b (normK l):=yfj h (by simp)
theorem H2.mv {b c k:Nat} {x:K} {q:Rat} (h:H2 b x) (hq:Hq c q) (hs:Sm k x) (hk:k≤90000) (hf:FitQ 24 q):H2 (b+c) (mvK q x):=by
 unfold H2;rw [yaS hs hk hf];exact Ht.mv1 h hq
theorem HI.ero {b c k:Nat} {l:List (Iv K)} {q:Rat} (h:HI b l) (hq:Hq c q) (hs:∀ i∈l,SmI k i) (hk:k≤90000) (hf:FitQ 24 q):HI (b+c) (eroK q l):=by
 refine HI.norm fun i hi=>?_;obtain⟨⟨j,hj,rfl⟩,_⟩:=ydG.1 hi;exact ⟨(h j hj).1.bd (by omega),(h j hj).2.mv hq.neg (hs j hj).2 hk hf.neg⟩
theorem HI.swp {b c k:Nat} {l:List (Iv K)} {p q:Rat} (h:HI b l) (hp:Hq c p) (hq:Hq c q) (hs:∀ i∈l,SmI k i) (hk:k≤90000) (fp:FitQ 24 p) (fq:FitQ 24 q):HI (b+c) (swpK p q l):=by
 refine HI.norm fun i hi=>?_;obtain⟨j,hj,rfl⟩:=List.mem_map.1 hi;exact ⟨(h j hj).1.mv hp (hs j hj).1 hk fp,(h j hj).2.mv hq (hs j hj).2 hk fq⟩
theorem HI.mv {b c k:Nat} {l:List (Iv K)} {q:Rat} (h:HI b l) (hq:Hq c q) (hs:∀ i∈l,SmI k i) (hk:k≤90000) (hf:FitQ 24 q):HI (b+c) (l.map (mvI q)):=fun i hi=>by
 obtain⟨j,hj,rfl⟩:=List.mem_map.1 hi;exact ⟨(h j hj).1.mv hq (hs j hj).1 hk hf,(h j hj).2.mv hq (hs j hj).2 hk hf⟩
structure Hs (s:St):Prop where
 d:HI 64 s.d
 g:Hq 8 s.g
 a:Hq 8 s.a
 b:Hq 16 s.b
section
variable {s:Nat→St} (h:StOk s) (hh:∀ i,Hs (s i))
include h hh
theorem rch_hi:∀ i,i≤4→HI (72+24*i) (rchS s i)
 | 0,_=>(hh 0).d.ero (hh 0).g (h.sm 0) (by omega) (ybI (h.g 0))
 | i+1,hi=>by
  refine HI.comb (((hh (i+1)).d.ero (hh (i+1)).g (h.sm (i+1)) (by omega) (ybI (h.g (i+1)))).mono (by omega)) ?_;have h1:=(rch_hi i (by omega)).mv (hh i).g (rch_sm h i (by omega)) (by omega) (ybI (h.g i))
  have h2:=h1.swp ((hh (i+1)).a.mono (show 8≤16 by omega)) (hh (i+1)).b (k:=53+50*i+25) (fun j hj=>by
   obtain⟨j',hj',rfl⟩:=List.mem_map.1 hj
   exact mvI_sm (rch_sm h i (by omega) j' hj') (by omega) (ybI (h.g i))) (by omega) (ybI (h.a (i+1))) (ybI (h.b (i+1)))
  exact h2.mono (by omega)
theorem liv_hi {n:Nat} (hn:n≤4):∀ j,j≤4→HI (168+24*j) (livS s n j)
 | 0,_=>(rch_hi h hh (n-1) (by omega)).mono (by omega)
 | j+1,hj=>by
  refine HI.comb ((rch_hi h hh (n-2-j) (by omega)).mono (by omega)) ?_;have:=(liv_hi hn j (by omega)).swp ((hh (n-2-j+1)).b.add (hh (n-2-j)).g).neg (((hh (n-2-j+1)).a.add (hh (n-2-j)).g).mono (show 8+8≤16+8 by omega)).neg (yiA h hn j (by omega)) (by omega) (ydc (h.b (n-2-j+1)) (h.g (n-2-j))).neg (ydc (h.a (n-2-j+1)) (h.g (n-2-j))).neg
  exact this.mono (by omega)
theorem yex {n:Nat} (hn:n≤4) (i:Nat):HI 512 (livAt s n i):=(liv_hi h hh hn (n-1-i) (by omega)).mono (by omega)
end
theorem lo_h2 (p:PartA):H2 64 (loK p):=by
 have h:=Hq.half (n:=((p.a % 64:Nat):Int)) (c:=64) (by omega) (by omega);refine ⟨(loK p).2.1,h.1,⟨0,?_⟩,h.2.1,h.2.2,?_⟩
 ·show (0:Rat)*_=_
  rw [Rat.zero_mul];rfl
 show (0:Rat)≤_
 have:=ydM (Rat.le_refl (a:=0)) (yhM 64);rwa [Rat.zero_mul] at this
theorem hi_h2 (o:Nat) (p:PartA):H2 64 (hiK o p):=by
 have ha:=Hq.half (n:=((p.a % 64:Nat):Int)) (c:=32) (by omega) (by omega);have hb:=Hq.half (n:=((p.b % 16:Nat):Int)) (c:=32) (by omega) (by omega)
 have h64:(((p.b % 16:Nat):Int)*((p.b % 16:Nat):Int)*2:Int)≤(64*64:Nat):=by
  have h1:((p.b % 16:Nat):Int)≤15:=by omega
  have h0:(0:Int)≤((p.b % 16:Nat):Int):=by omega
  have:=Int.mul_le_mul h1 h1 h0 (by omega);omega
 have hok:=(hiK o p).2.1;unfold H2;have hv:(hiK o p).1=hiQ o p:=rfl;rw [hv] at hok ⊢;unfold hiQ at *;split
 ·rename_i h
  rw [if_pos h] at hok;have h:=ha.mono (show 32≤64 by omega)
  refine ⟨hok,h.1,⟨((p.b % 16:Nat):Int)*((p.b % 16:Nat):Int)*2,?_⟩,h.2.1,h.2.2,?_⟩
  ·dsimp only
   rw [yak,yak];exact Rat.mul_one _
  dsimp only;have:=yaB.2 h64;have e:((64:Nat):Rat)*((64:Nat):Rat)=(((64*64:Nat):Int):Rat):=by rw [← Rat.natCast_mul,Rat.intCast_natCast]
  rw [e];rw [yak,yak] at this;exact this
 rename_i h;rw [if_neg h] at hok;have h:=ha.add hb;refine ⟨hok,h.1,⟨0,?_⟩,h.2.1,h.2.2,?_⟩
 ·show (0:Rat)*_=_
  rw [Rat.zero_mul];rfl
 show (0:Rat)≤_
 have:=ydM (Rat.le_refl (a:=0)) (yhM 64);rwa [Rat.zero_mul] at this
theorem evD_hi (e:EvA):HI 64 (evD e):=by
 refine HI.norm fun i hi=>?_;obtain⟨p,_,rfl⟩:=List.mem_map.1 hi;unfold ych;split
 ·exact ⟨lo_h2 p,lo_h2 p⟩
 exact ⟨lo_h2 p,hi_h2 _ p⟩
theorem evS_hs (i:Nat) (e:EvA):Hs (evS i e):=by
 have hg:=Hq.half (n:=((e.g % 8:Nat):Int)) (c:=8) (by omega) (by omega);have ha:=Hq.half (n:=((e.w % 12:Nat):Int)-4) (c:=8) (by omega) (by omega);have hr:=Hq.half (n:=((e.r % 12:Nat):Int)) (c:=8) (by omega) (by omega);refine ⟨evD_hi e,hg,?_,?_⟩
 ·show Hq 8 (if i=0 then 0 else _)
  split
  ·exact Hq.zero 8
  exact ha
 show Hq 16 (if i=0 then 0 else _)
 split
 ·exact Hq.zero 16
 exact ha.add hr
theorem steps_hs (l:List EvA) (i:Nat):Hs (sAt (yaW l) i):=by
 unfold sAt;rw [List.getD_eq_getElem?_getD];cases h:(yaW l)[i]? with
 | none=>exact ⟨(by intro j hj;cases hj),Hq.zero _,Hq.zero _,Hq.zero _⟩
 | some s =>
  obtain⟨j,e,rfl⟩:=ydf (List.mem_of_getElem? h);exact evS_hs j e
def Hb (a:Nat) (x:K):Prop:=∃ m l:Nat,0<m∧0<l∧m≤2 ^ a∧l≤2 ^ 64∧Ht (m:Rat) (l:Rat) ((2 ^ a:Nat):Rat) x.1
theorem Hb.sm {a:Nat} {x:K} (h:Hb a x):Sm (a+17) x:=by
 obtain⟨m,l,m0,l0,hm,hl,h⟩:=h;refine (h.form m0 l0 (Nat.pow_pos (by decide))).fit ?_;have h2:m*m≤2 ^ a*2 ^ a:=Nat.mul_le_mul hm hm;have h1:2*(l*(m*m)*(2 ^ a*2 ^ a))≤2*(2 ^ 64*(2 ^ a*2 ^ a)*(2 ^ a*2 ^ a)):=Nat.mul_le_mul_left 2 (Nat.mul_le_mul_right _ (Nat.mul_le_mul hl h2))
 have e1:2*(2 ^ 64*(2 ^ a*2 ^ a)*(2 ^ a*2 ^ a))=2 ^ (65+4*a):=by
  rw [Nat.pow_add,Nat.mul_comm 4 a,Nat.pow_mul];generalize 2 ^ a=T;grind
 rw [e1] at h1
 have h3:8*(2*(l*(m*m)*(2 ^ a*2 ^ a))*(2*(l*(m*m)*(2 ^ a*2 ^ a))))≤2 ^ (3+((65+4*a)+(65+4*a))):=by
  rw [Nat.pow_add,Nat.pow_add];exact Nat.mul_le_mul_left 8 (Nat.mul_le_mul h1 h1)
 have h4:2 ^ (3+((65+4*a)+(65+4*a)))<256 ^ (a+17):=by
  rw [show (256:Nat)=2 ^ 8 by rfl,← Nat.pow_mul]
  exact Nat.pow_lt_pow_right (by decide) (by omega)
 have h5:=Nat.lt_of_le_of_lt h3 h4;exact Int.ofNat_lt.2 h5
theorem Hb.small {x:K} (h:Sm 8 x):Hb 64 x:=by
 have h1:=ht_fit (m:=1) (l:=1) x.2.1 h;have d1:=fit_lt h.1.2;have d2:=fit_lt h.2.2;rw [Int.natAbs_natCast] at d1 d2;rw [Nat.mul_one,Nat.mul_one] at h1;rw [show (256:Nat) ^ 8=2 ^ 64 by decide] at *
 exact ⟨_,_,x.1.p.den_pos,x.1.r.den_pos,by omega,by omega,h1⟩
theorem rat_hb {a:Nat} {q:Rat} (h:FitQ 100000 q) (hd:q.den≤2 ^ a) (hn:q.num.natAbs≤2 ^ a):Hb a (kQ q h):=by
 have hl:(1:Nat)≤2 ^ 64:=by decide
 have key : -((2 ^ a:Nat):Rat)≤q∧q≤((2 ^ a:Nat):Rat)∧(0:Rat)≤((2 ^ a:Nat):Rat)*((2 ^ a:Nat):Rat):=by
  generalize 2 ^ a=T at *;have hd:=q.den_pos;have e:=yaR q;rw [Rat.intCast_natCast] at e;have hdr:(0:Rat)<(q.den:Rat):=yaz hd
  have hT:((q.num:Int):Rat)≤((T:Nat):Rat) ∧ -((T:Nat):Rat)≤((q.num:Int):Rat):=by
   have a1:=(yaB (a:=q.num) (b:=(T:Int))).2 (by omega);have a2:=(yaB (a:=-(T:Int)) (b:=q.num)).2 (by omega);rw [Rat.intCast_natCast] at a1;rw [Rat.intCast_neg,Rat.intCast_natCast] at a2;exact ⟨a1,a2⟩
  have h1d:(1:Rat)≤(q.den:Rat):=nc_le hd;have hT0:=yhM T;have h9:=ydM (Rat.le_refl (a:=0)) hT0;rw [Rat.zero_mul] at h9;generalize ((q.num:Int):Rat)=n at *;generalize (q.den:Rat)=d at *;generalize ((T:Nat):Rat)=t at *
  have hk:t≤t*d:=by
   have:=Rat.mul_le_mul_of_nonneg_left h1d hT0;grind
  refine ⟨?_,?_,h9⟩
  ·refine Rat.not_lt.1 fun hlt=>?_
   have:=Rat.mul_lt_mul_of_pos_right hlt hdr;grind
  refine Rat.not_lt.1 fun hlt=>?_;have:=Rat.mul_lt_mul_of_pos_right hlt hdr;grind
 refine ⟨q.den,1,q.den_pos,by decide,hd,hl,(kQ q h).2.1,⟨q.num,?_⟩,⟨0,?_⟩,key.1,key.2.1,key.2.2⟩
 ·have:=yaR q
  rw [Rat.intCast_natCast] at this;exact this
 show (0:Rat)*_=_
 rw [Rat.zero_mul];rfl
theorem yit (k A m l b N:Nat) (hk:k≤90000) (hk1:1≤k) (hA:A≤700000) (hm0:0<m) (hl0:0<l) (hb0:0<b) (hmA:m≤2 ^ A) (hl:l≤2 ^ 64) (hbA:b≤2 ^ A) (I:Iv K) (hX:Ht (m:Rat) (l:Rat) (b:Rat) I.f.pt.1) (hY:Ht (m:Rat) (l:Rat) (b:Rat) I.l.pt.1)
  (hN:512*(b*b*b)*(m*m*(m*m)*(l*l))≤N) (hM:8*((2*(l*(m*m)*(b*b))*((2*b*N*N)*(2*b*N*N)))*(2*(l*(m*m)*(b*b))*((2*b*N*N)*(2*b*N*N))))<256 ^ k) (hNA:N≤2 ^ A) (hbN:2*b*N≤2 ^ A) :
  (∀ w,Calls prog 23 #[iv I] w fun e w'=>e = .returned (kv (ybi I))∧Bl w w')∧Hb A (ybi I)∧(I.f.pt<I.l.pt→I.f.pt<ybi I∧ybi I<I.l.pt):=by
 by_cases h:I.f.pt<I.l.pt
 ·obtain⟨p1,p2,p3,p4,_,_⟩:=yii hm0 hl0 hb0 hX hY h hN
  have p3':=Nat.le_trans p3 hNA;have p4':=Nat.le_trans p4 hbN
  have hbig:2 ^ A<256 ^ (A / 8+1):=by
   rw [show (256:Nat)=2 ^ 8 by rfl,← Nat.pow_mul]
   exact Nat.pow_lt_pow_right (by decide) (by omega)
  have hq:FitQ 100000 (yeT I.f.pt.1 I.l.pt.1):=by
   refine FitQ.mono (k:=A / 8+1) ⟨?_,?_⟩ (by omega)
   ·rw [Fit_iff]
    exact Nat.lt_of_le_of_lt p4' hbig
   rw [Fit_iff,Int.natAbs_natCast];exact Nat.lt_of_le_of_lt p3' hbig
  have e:ybi I=kQ (yeT I.f.pt.1 I.l.pt.1) hq:=by
   unfold ybi;rw [dif_pos ⟨h,hq⟩]
  rw [e];refine ⟨fun w=>pick_yes I _ hq h (jX fun w=>yiV k hk hk1 m l b N hm0 hl0 hb0 _ _ hX hY h hN hM w) w,rat_hb hq p3' p4',fun _=>⟨?_,?_⟩⟩
  ·rw [K.lt_def]
   exact yep I.f.pt.2.1 p1
  rw [K.lt_def];exact yer I.l.pt.2.1 p2
 have e:ybi I=I.f.pt:=by
  unfold ybi;rw [dif_neg (fun k=>h k.1)]
 rw [e];exact ⟨fun w=>pick_no I h w,⟨m,l,hm0,hl0,hmA,hl,hX.bd hbA⟩,fun k=>absurd k h⟩
theorem pick_core (a:Nat) (ha:a≤6000) (m l:Nat) (hm0:0<m) (hl0:0<l) (hm:m≤2 ^ (a+1)) (hl:l≤2 ^ 64) (I:Iv K) (hX:Ht (m:Rat) (l:Rat) ((2 ^ (a+1):Nat):Rat) I.f.pt.1) (hY:Ht (m:Rat) (l:Rat) ((2 ^ (a+1):Nat):Rat) I.l.pt.1) :
  (∀ w,Calls prog 23 #[iv I] w fun e w'=>e = .returned (kv (ybi I))∧Bl w w')∧Hb (8*a+146) (ybi I)∧(I.f.pt<I.l.pt→I.f.pt<ybi I∧ybi I<I.l.pt):=by
 have hT0:0<2 ^ (a+1):=Nat.pow_pos (by decide);have hTA:=Nat.pow_le_pow_right (show 0<2 by decide) (show a+1≤8*a+146 by omega)
 obtain⟨T,hT⟩:∃ T,2 ^ (a+1)=T:=⟨_,rfl⟩;obtain⟨L,hL⟩:∃ L,2 ^ 64=L:=⟨_,rfl⟩;have hl':=hl;rw [hT] at hX hY hT0 hm hTA;rw [hL] at hl;have hm2:m*m≤T*T:=Nat.mul_le_mul hm hm;have hm4:m*m*(m*m)≤T*T*(T*T):=Nat.mul_le_mul hm2 hm2;have hN:512*(T*T*T)*(m*m*(m*m)*(l*l))≤512*(T*T*T)*(T*T*(T*T)*(L*L)):=Nat.mul_le_mul_left _ (Nat.mul_le_mul hm4 (Nat.mul_le_mul hl hl))
 have eN:512*(T*T*T)*(T*T*(T*T)*(L*L))=2 ^ (7*a+144):=by
  have e1:512*(T*T*T)*(T*T*(T*T)*(L*L))=2 ^ 9*T ^ 7*L ^ 2:=by grind
  rw [e1,← hT,← hL,← Nat.pow_mul,← Nat.pow_mul,← Nat.pow_add,← Nat.pow_add];refine congrArg (fun n=>2 ^ n) ?_;omega
 rw [eN] at hN;have hNA:=Nat.pow_le_pow_right (show 0<2 by decide) (show 7*a+144≤8*a+146 by omega)
 obtain⟨N,hNe⟩:∃ N,2 ^ (7*a+144)=N:=⟨_,rfl⟩;rw [hNe] at hN hNA
 have hM1:2*(l*(m*m)*(T*T))*((2*T*N*N)*(2*T*N*N))≤2 ^ (34*a+649):=by
  have e:2*(L*(T*T)*(T*T))*((2*T*N*N)*(2*T*N*N))=2 ^ (34*a+649):=by
   have e1:2*(L*(T*T)*(T*T))*((2*T*N*N)*(2*T*N*N))=2 ^ 3*L*T ^ 6*N ^ 4:=by grind
   rw [e1,← hT,← hL,← hNe,← Nat.pow_mul,← Nat.pow_mul,← Nat.pow_add,← Nat.pow_add,← Nat.pow_add];refine congrArg (fun n=>2 ^ n) ?_;omega
  rw [← e];exact Nat.mul_le_mul_right _ (Nat.mul_le_mul_left _ (Nat.mul_le_mul_right _ (Nat.mul_le_mul hl hm2)))
 have hM:8*((2*(l*(m*m)*(T*T))*((2*T*N*N)*(2*T*N*N)))*(2*(l*(m*m)*(T*T))*((2*T*N*N)*(2*T*N*N))))<256 ^ (9*a+164):=by
  refine Nat.lt_of_le_of_lt (Nat.mul_le_mul_left 8 (Nat.mul_le_mul hM1 hM1)) ?_;rw [show (256:Nat)=2 ^ 8 by rfl,← Nat.pow_mul,show (8:Nat)=2 ^ 3 by rfl,← Nat.pow_add,← Nat.pow_add]
  exact Nat.pow_lt_pow_right (by decide) (by omega)
 have e4:2*T*N=2 ^ (8*a+146):=by
  rw [← hT,← hNe,show (2:Nat)*2 ^ (a+1)=2 ^ 1*2 ^ (a+1) by rfl,← Nat.pow_add,← Nat.pow_add]
  refine congrArg (fun n=>2 ^ n) ?_;omega
 exact yit (9*a+164) (8*a+146) m l T N (by omega) (by omega) (by omega) hm0 hl0 hT0 (Nat.le_trans hm hTA) hl' hTA I hX hY hN hM hNA (Nat.le_of_eq e4)
theorem yhi {I:Iv K} (hv:I.f<I.l) (h:I.f.pt<I.l.pt→I.f.pt<ybi I∧ybi I<I.l.pt):I.f≤⟨ybi I,false⟩∧(⟨ybi I,true⟩:Bd K)≤I.l:=by
 by_cases hl:I.f.pt<I.l.pt
 ·exact ⟨.inl (h hl).1,.inl (h hl).2⟩
 have e:ybi I=I.f.pt:=by
  unfold ybi;rw [dif_neg (fun k=>hl k.1)]
 rw [Bd.lt_def] at hv;rcases hv with hv|⟨h1,h2,h3⟩
 ·exact absurd hv hl
 rw [e];exact ⟨.inr ⟨rfl,fun k=>by rw [h2] at k;cases k⟩,.inr ⟨h1,fun _=>h3⟩⟩
end
end Go.Proofs.YtpgffjjpiafhpaaGreatDoor
