/- Parts of a proof: If Vi Qb Vj. -/
import Derived.Lib.SliceRun
import Derived.Test.YtpgffjjpiafhpaaGreatDoorU18
import Derived.Test.YtpgffjjpiafhpaaGreatDoorU15
import Derived.Test.YtpgffjjpiafhpaaGreatDoorU01
set_option linter.unusedVariables false
set_option linter.unusedSimpArgs false
set_option linter.unusedSectionVars false
set_option maxRecDepth 100000
set_option maxHeartbeats 8000000
namespace Go.Proofs.YtpgffjjpiafhpaaGreatDoor
open Go.RowKit Tryz
section
open Classical
theorem cmpQ_mv (x y:Qn) (q:Rat):cmpQ (mvQ x q) (mvQ y q)=cmpQ x y:=by
 have e:(mvQ x q).p-(mvQ y q).p=x.p-y.p:=by show x.p+q-(y.p+q)=_;grind
 have h1:(mvQ x q).u=x.u:=rfl;have h2:(mvQ y q).u=y.u:=rfl;have h3:(mvQ x q).r=x.r:=rfl;have h4:(mvQ y q).r=y.r:=rfl;unfold cmpQ;rw [e,h1,h2,h3,h4]
theorem yiR {α:Type} {R:α→α→Prop} {a b:α}:∀ {l:List α},l.Pairwise R→a∈l→b∈l→a=b∨R a b∨R b a
 | [],_,h,_=>by cases h
 | x :: l,hp,ha,hb=>by
  rw [List.pairwise_cons] at hp;rcases List.mem_cons.1 ha with h1|ha'
  ·rcases List.mem_cons.1 hb with h2|hb'
   ·exact .inl (h1.trans h2.symm)
   exact .inr (.inl (h1 ▸ hp.1 _ hb'))
  rcases List.mem_cons.1 hb with h2|hb'
  ·exact .inr (.inr (h2 ▸ hp.1 _ ha'))
  exact yiR hp.2 ha' hb'
theorem ybn {l:List (Iv K)} {x:Bd K}:hasL l x=true↔∃ i∈l,i.f≤x∧x<i.l:=by
 unfold hasL;rw [List.any_eq_true];exact ⟨fun ⟨i,hi,h⟩=>⟨i,hi,Iv.hI.1 h⟩,fun ⟨i,hi,h⟩=>⟨i,hi,Iv.hI.2 h⟩⟩
theorem sub_in {T D:List (Iv K)} (hD:Norm D) (hT:∀ i∈T,i.f<i.l) (hs:SubL T D):∀ i∈T,∃ j∈D,j.f≤i.f∧i.l≤j.l:=by
 intro i hi;have hv:=hT i hi;obtain⟨j,hj,h1,h2⟩:=ybn.1 (hs i.f (ybn.2 ⟨i,hi,by grind,hv⟩));refine ⟨j,hj,h1,?_⟩;apply Classical.byContradiction;intro hn;have h3:j.l<i.l:=by grind
 obtain⟨j',hj',h4,h5⟩:=ybn.1 (hs j.l (ybn.2 ⟨i,hi,by grind,h3⟩));have hvj:=hD.val j hj;rcases yiR hD.pair hj hj' with rfl|h|h<;>grind
section
variable {k:Nat} {q:Rat} (hk:k≤80000) (hq:FitQ 24 q)
include hk hq
theorem mvK_cmp {x y:K} (hx:Sm k x) (hy:Sm k y):cmpQ (mvK q x).1 (mvK q y).1=cmpQ x.1 y.1:=by
 rw [yaS hx (by omega) hq,yaS hy (by omega) hq,cmpQ_mv]
theorem mvK_lt {x y:K} (hx:Sm k x) (hy:Sm k y):mvK q x<mvK q y↔x<y:=by
 rw [← K.cmp_neg,← K.cmp_neg,mvK_cmp hk hq hx hy]
theorem mvK_eq {x y:K} (hx:Sm k x) (hy:Sm k y):mvK q x=mvK q y↔x=y:=by
 rw [← K.cmp_zero,← K.cmp_zero,mvK_cmp hk hq hx hy]
theorem yei {a b:Bd K} (ha:Sm k a.pt) (hb:Sm k b.pt):(⟨mvK q a.pt,a.beh⟩:Bd K)<⟨mvK q b.pt,b.beh⟩↔a<b:=by
 rw [Bd.lt_def,Bd.lt_def];dsimp only;rw [mvK_lt hk hq ha hb,mvK_eq hk hq ha hb]
theorem mvB_le {a b:Bd K} (ha:Sm k a.pt) (hb:Sm k b.pt):(⟨mvK q a.pt,a.beh⟩:Bd K)≤⟨mvK q b.pt,b.beh⟩↔a≤b:=by
 rw [Bd.le_def,Bd.le_def];dsimp only;rw [mvK_lt hk hq ha hb,mvK_eq hk hq ha hb]
theorem normF_mv:∀ {D:List (Iv K)} {b:Bd K},Sm k b.pt→(∀ i∈D,SmI k i)→NormF D b→NormF (D.map (mvI q)) ⟨mvK q b.pt,b.beh⟩
 | [],_,_,_,_=>trivial
 | i :: D,b,hb,h,hn=>by
  have hi:=h i (List.mem_cons_self ..);obtain⟨h1,h2,h3⟩:=hn;exact ⟨(yei hk hq hb hi.1).2 h1,(yei hk hq hi.1 hi.2).2 h2,normF_mv hi.2 (fun j hj=>h j (List.mem_cons_of_mem _ hj)) h3⟩
theorem norm_mv {D:List (Iv K)} (h:∀ i∈D,SmI k i) (hn:Norm D):Norm (D.map (mvI q)):=by
 cases D with
 | nil=>trivial
 | cons i D =>
  have hi:=h i (List.mem_cons_self ..);exact ⟨(yei hk hq hi.1 hi.2).2 hn.1,normF_mv hk hq hi.2 (fun j hj=>h j (List.mem_cons_of_mem _ hj)) hn.2⟩
end
end
section
open Classical
theorem flat_mid (a b:List (Iv K)) (s t:Iv K) (hf:t.f.beh=s.f.beh) (hl:t.l.beh=s.l.beh):setL (setL ((a++s :: b).flatMap fun i=>icells i) (a.length*20) (kcells t.f.pt.1)) (a.length*20+9) (kcells t.l.pt.1)=(a++t :: b).flatMap fun i=>icells i:=by
 have ha:(a.flatMap fun i=>icells i).length=a.length*20:=yeC (fun i:Iv K=>icells i) yco a;rw [List.flatMap_append,List.flatMap_append,List.flatMap_cons,List.flatMap_cons];generalize (a.flatMap fun i=>icells i)=F at *;generalize (b.flatMap fun i=>icells i)=G at *
 have step:∀ (G vs:List Value) (j:Nat),setL (F++G) (F.length+j) vs=F++setL G j vs:=fun G vs j=>by
  unfold setL;rw [List.take_length_add_append,Nat.add_assoc,List.drop_length_add_append,List.append_assoc,List.append_assoc,List.append_assoc]
 rw [← ha];have e0:setL (F++(icells s++G)) F.length (kcells t.f.pt.1)=F++setL (icells s++G) 0 (kcells t.f.pt.1):=step _ _ 0;rw [e0,step];congr 1
 unfold icells;rw [hf,hl];rfl
theorem OI_.setm {w0 w:World} {g n c:Nat} {a b:List (Iv K)} {s t:Iv K} (hf:t.f.beh=s.f.beh) (hl:t.l.beh=s.l.beh) (h:OI_ w0 w (.slice (some ⟨g,0,none⟩) n c) (a++s :: b)) :
  OI_ w0 ((w.setCells g (a.length*20) (kcells t.f.pt.1)).setCells g (a.length*20+9) (kcells t.l.pt.1)) (.slice (some ⟨g,0,none⟩) n c) (a++t :: b):=by
 have hr:=h.row;have hlen:(a++s :: b).length=(a++t :: b).length:=by simp
 have hbig:a.length+1≤(a++s :: b).length:=by simp
 have hn:n=(a++s :: b).length:=by
  obtain⟨po,pc,e⟩:=h.form;injection e
 subst hn;rw [hlen] at *;obtain⟨h1,k1⟩:=ycO hr (o:=a.length*20) (vs:=kcells t.f.pt.1) (by rw [yaU];omega);obtain⟨h2,k2⟩:=ycO h1 (o:=a.length*20+9) (vs:=kcells t.l.pt.1) (by rw [yaU];omega);rw [flat_mid a b s t hf hl] at h2;have hg:=h.base g rfl;exact ⟨h2,h.base,(h.keep.trans k1 (by simp;exact hg)).trans k2 (by simp;exact hg)⟩
theorem OI_.mid {w0 w:World} {ov:Option Addr} {n c:Nat} {a b:List (Iv K)} {s:Iv K} (h:OI_ w0 w (.slice ov n c) (a++s :: b)) :
  ∃ g,ov=some ⟨g,0,none⟩∧g<w.heap.size∧w0.heap.size≤g∧IvAt w g (a.length*20) s∧w.there g (a.length*20) 9∧∀ vs:List Value,vs.length=9→(w.setCells g (a.length*20) vs).there g (a.length*20+9) 9:=by
 have hr:=h.row;have hb:=h.base;have hbig:a.length+1≤(a++s :: b).length:=by simp
 have hn:n=(a++s :: b).length:=by
  obtain⟨po,pc,e⟩:=h.form;injection e
 subst hn;obtain⟨g',o,e,hg,hat⟩:=IvR.elem h.read a.length (by omega);rcases hr.2 with ⟨hv,_⟩|⟨g,cap,cur,hv,_,hgg,_⟩
 ·injection hv with e1
  rw [e1] at e;cases e
 injection hv with e1 e2 e3;subst e1 e3;have e':=e;injection e' with e';injection e' with e4 e5;subst e4 e5;have hs:(a++s :: b)[a.length]'(by omega)=s:=by simp
 rw [hs] at hat;refine ⟨g,rfl,hg,hb g rfl,by simpa using hat,ygS hr (by omega),fun vs hvs=>?_⟩;obtain⟨h1,k1⟩:=ycO hr (o:=a.length*20) (vs:=vs) (by omega);exact ygS h1 (by omega)
theorem clone_c (l:List (Iv K)) (w:World) (sv:Value) (hr:IvR w sv l) (h9:l.length≤100000) :
  Calls prog 107 #[sv] w fun e w'=>∃ v,e = .returned v∧OI_ w w' v l:=by
 have HR:=jX hr;have q22:∀ (w:World) (a:Option Addr) (n c n' c':Nat),(binOp .eql 22 (.slice a n c) (.slice none n' c')).run prog w = .ok (.bool a.isNone) w:=fun w a n c n' c'=>Lib.run_eql_slice_nil w _ _ a n c n' c' underlying22;rcases hr with ⟨rfl,rfl⟩|⟨g,o,c,rfl,hc,hg,_⟩
 ·clear HR
  go_enter func107,ntmps107
  go_wp2_with fail;go_ret
  exact ⟨_,rfl,OE.nil w⟩
 clear hg hc;go_enter func107,ntmps107
 go_upto_region 3 with (fail)
 refine wp_region_lit ?_;obtain⟨ub,gx,e3,e4,hz1,hx⟩:=OI_.start w;refine yar (v:=.slice (some ⟨w.heap.size,0,none⟩) 0 0) (by rfl) (yaV 22 0 #[] #[] _ rfl (by simp) (build0_i w)) (fun K hK=>?_);rw [e3,e4];clear e3;go_simp;go_step
 refine wV ?_;go_simp;refine fO ?_;obtain⟨v4,u4,hr4,ho4,hn4,_⟩:=IvR.app (ty:=22) hx (.inl (by simp [Value.ownBlock])) (HR.out.later hx.keep) (by simp;omega);refine yar (by rfl) (ybj (.tmp 5) (.tmp 6) 22 _ _ _ rfl rfl rfl hr4) (fun K hK=>?_);go_simp;go_step
 clear hr4;have HN:=jX ho4;clear ho4 hn4 hx;go_wp2_with fail;go_ret
 exact ⟨_,rfl,HN.out⟩
end
section
variable {P:Program} {ops:Array Oper} {md:Region.Mode} {S:World→Prop} {Q:Exit→Act→World→Prop} {t:Nat}
def yeW (md:Region.Mode) (ops:Array Oper) (t i:Nat):Bool:=(ops[t]?).any fun o=>o.after.any fun e=>Region.binds md e&&e.on == i
def ydH (md:Region.Mode) (ops:Array Oper) (t i:Nat):Bool:=yeW md ops t i || (List.range ops.size).any fun j=>yeW md ops t j&&yeW md ops j i
theorem yef {n t i:Nat} {listed:Array Bool} (inv:HeadInv md ops n listed) (h:yeW md ops t i=true) (hi:listed.getD i true=false):listed.getD t true=false:=by
 unfold yeW at h;cases ho:ops[t]? with
 | none=>rw [ho] at h;cases h
 | some o =>
  rw [ho] at h;simp only [Option.any_some,Array.any_eq_true,Bool.and_eq_true,beq_iff_eq] at h;obtain⟨k,hk,hb,he⟩:=h;have hts:t<ops.size:=(Array.getElem?_eq_some_iff.1 ho).1;cases hl:listed.getD t true with
  | false=>rfl
  | true =>
   have hl2:listed.getD t false=true:=by
    have hz:t<listed.size:=by rw [inv.size];exact hts
    simp [hz] at hl ⊢;exact hl
   have:=inv.closed t o ho hl2 o.after[k] (Array.getElem_mem hk) hb;rw [he,getD_both hi] at this;cases this
theorem yhL {n t i:Nat} {listed:Array Bool} (inv:HeadInv md ops n listed) (h:ydH md ops t i=true) (hi:listed.getD i true=false):listed.getD t true=false:=by
 unfold ydH at h;rcases Bool.or_eq_true _ _ ▸ h with h|h
 ·exact yef inv h hi
 obtain⟨j,_,hj⟩:=List.any_eq_true.1 h;rw [Bool.and_eq_true] at hj;exact yef inv hj.1 (yef inv hj.2 hi)
def yeY (P:Program) (md:Region.Mode) (ops:Array Oper) (Q:Exit→Act→World→Prop) (S:World→Prop) (t n:Nat) (L:Array Bool→Act→World→Prop):Nat→Array Bool→Act→World→Prop
 | 0,listed,a,w=>L listed a w
 | f+1,listed,a,w=>Region.ready md ops listed≠[]∧∀ i∈Region.ready md ops listed,i<n∧wpOp P ops Q i (fun a' w'=>((listed.setIfInBounds i true).getD t true=false→S w')∧yeY P md ops Q S t n L f (listed.setIfInBounds i true) a' w') a w
theorem yeN {n g:Nat} {L:Array Bool→Act→World→Prop} (hL:∀ listed a w,L listed a w→wpAny P md ops Q g listed a w) :
  ∀ (f:Nat) (listed:Array Bool) (a:Act) (w:World),yeY P md ops Q S t n L f listed a w→wpAny P md ops Q (f+g) listed a w
 | 0,listed,a,w,h=>by rw [Nat.zero_add];exact hL _ _ _ h
 | f+1,listed,a,w,h=>by
  rw [show f+1+g=(f+g)+1 by omega]
  exact ⟨fun h0=>absurd h0 h.1,fun i hi=>wpOp_mono (fun a' w' h'=>yeN hL f _ a' w' h'.2) (h.2 i hi).2⟩
theorem ygb {n i:Nat} {oi:Oper} {v:Value} {Y:World→Prop} {L:Array Bool→Act→World→Prop} (hi:ops[i]? = some oi) (hsel:∀ (j:Nat) (o:Oper) cs b,ops[j]? = some o→o.op ≠ .select cs b)
  (hQ:∀ c a w,Q (.panic c) (a.put oi.dst v) w→Q (.panic c) a w)
  (hs:Region.sinkB md ops n=true) (hc:Region.chainB md ops n=true) (hn:n<ops.size) (hin:i<n) (hit:i≠t) (hY:(∀ u,Y u)∨((∀ u,S u→Y u)∧ydH md ops t i=true))
  (hdone:∀ listed a w,L listed a w→∀ j∈Region.ready md ops listed,n≤j) :
  ∀ (f:Nat) (listed:Array Bool) (a:Act) (w:World),HeadInv md ops n listed →
   (∀ j oj,ops[j]? = some oj→j≠i→listed.getD j true=false→(∀ e∈oj.after,Region.binds md e=true→e.on≠i)→oi.apart ops oj=true) →
   i∈Region.ready md ops listed→YieldsIf P ops Y oi v a→(listed.getD t true=false→S w) →
   yeY P md ops Q S t n L f (listed.setIfInBounds i true) (a.put oi.dst v) w→yeY P md ops Q S t n L (f+1) listed a w:=by
 have hgt:∀ listed:Array Bool,(listed.setIfInBounds i true).getD t true=listed.getD t true:=fun listed=>getD_set_ne true hit
 have hYw:∀ (listed:Array Bool) (w:World),HeadInv md ops n listed→listed.getD i true=false→(listed.getD t true=false→S w)→Y w:=fun listed w inv hun hS=>by
  rcases hY with h|⟨h,hw⟩
  ·exact h w
  exact h w (hS (yhL inv hw hun))
 intro f;induction f with
 | zero =>
  intro listed a w inv _ hr hy hS H;refine ⟨fun h=>(by rw [h] at hr;cases hr),fun j hj=>?_⟩
  have hjn:j<n:=by
   rcases Nat.lt_or_ge j n with h|h
   ·exact h
   exact absurd hj (tail_waits hs hc hn inv _ i rfl hin (mem_ready.1 hr).1 j h)
  refine ⟨hjn,?_⟩;by_cases hji:j=i
  ·subst hji;exact hy.wpOp hi (hYw listed w inv (mem_ready.1 hr).1 hS) ⟨fun h=>hS (by rw [hgt] at h;exact h),H⟩
  have:=hdone _ _ _ H j (ready_mono hj hji);omega
 | succ f ih =>
  intro listed a w inv hfree hr hy hS H;have hun:=(mem_ready.1 hr).1;refine ⟨fun h=>(by rw [h] at hr;cases hr),fun j hj=>?_⟩
  have hjn:j<n:=by
   rcases Nat.lt_or_ge j n with h|h
   ·exact h
   exact absurd hj (tail_waits hs hc hn inv _ i rfl hin hun j h)
  refine ⟨hjn,?_⟩;by_cases hji:j=i
  ·subst hji;exact hy.wpOp hi (hYw listed w inv hun hS) ⟨fun h=>hS (by rw [hgt] at h;exact h),H⟩
  have h1:=(H.2 j (ready_mono hj hji)).2;obtain⟨hjun,oj,hoj,hall⟩:=mem_ready.1 hj
  have hnot:∀ e∈oj.after,Region.binds md e=true→e.on≠i:=fun e he hb heq=>by
   have h1:=hall e he hb;rw [heq,getD_both hun] at h1;cases h1
  have h2:=wpOp_putIf hoj (hfree j oj hoj hji hjun hnot) (fun cs b=>hsel i oi cs b hi) (fun cs b=>hsel j oj cs b hoj) hQ hy h1
  have hfree' : ∀ k ok, ops[k]? = some ok → k ≠ i → (listed.setIfInBounds j true).getD k true = false →
    (∀ e∈ok.after,Region.binds md e=true→e.on≠i)→oi.apart ops ok=true:=fun k ok hk hki hun hno=>by
   refine hfree k ok hk hki ?_ hno;by_cases hjk:j=k
   ·subst hjk;exact hjun
   rw [getD_set_ne true hjk] at hun;exact hun
  refine wpOp_mono (fun a' w' h3=>?_) h2;have hS3:(listed.setIfInBounds j true).getD t true=false→S w':=fun h=>h3.2.1 (by rw [Array.setIfInBounds_comm _ _ (Ne.symm hji),hgt];exact h);refine ⟨hS3,ih (listed.setIfInBounds j true) a' w' (inv.set hj hjn) hfree' (ready_mono hr (Ne.symm hji)) h3.1 hS3 ?_⟩;rw [Array.setIfInBounds_comm _ _ hji];exact h3.2.2
def yeq (P:Program) (md:Region.Mode) (ops:Array Oper) (Q:Exit→Act→World→Prop) (S:World→Prop) (t n:Nat) (L:Array Bool→Act→World→Prop):Nat→Array Bool→Act→World→Prop
 | 0,listed,a,w=>L listed a w
 | f+1,listed,a,w =>
  (∃ i o v Y,ops[i]? = some o∧i<n∧i≠t∧Region.free md ops listed i=true∧(Region.ready md ops listed).contains i=true∧((∀ u,Y u)∨((∀ u,S u→Y u)∧ydH md ops t i=true))∧YieldsIf P ops Y o v a∧(listed.getD t true=false→S w)∧yeq P md ops Q S t n L f (listed.setIfInBounds i true) (a.put o.dst v) w) ∨
  (Region.ready md ops listed≠[]∧∀ i∈Region.ready md ops listed,i<n∧wpOp P ops Q i (fun a' w'=>((listed.setIfInBounds i true).getD t true=false→S w')∧yeq P md ops Q S t n L f (listed.setIfInBounds i true) a' w') a w)
theorem yfg {n:Nat} {L:Array Bool→Act→World→Prop} (hsel:Region.noSelect ops=true) (hQ:∀ c a d v w,Q (.panic c) (Act.put a d v) w→Q (.panic c) a w)
  (hs:Region.sinkB md ops n=true) (hc:Region.chainB md ops n=true) (hn:n<ops.size) (hdone:∀ listed a w,L listed a w→∀ j∈Region.ready md ops listed,n≤j) :
  ∀ (f:Nat) (listed:Array Bool) (a:Act) (w:World),HeadInv md ops n listed→yeq P md ops Q S t n L f listed a w→yeY P md ops Q S t n L f listed a w
 | 0,_,_,_,_,h=>h
 | f+1,listed,a,w,inv,h=>by
  rcases h with ⟨i,o,v,Y,ho,hi,hit,hf,hr,hY,hy,hS,hrest⟩|⟨hne,hall⟩
  ·have hr':i∈Region.ready md ops listed:=by simpa using hr
   exact ygb ho (Region.noSelect_spec hsel) (fun c a w h=>hQ c _ _ _ w h) hs hc hn hi hit hY hdone f listed a w inv (Region.free_spec ho hf) hr' hy hS
    (yfg hsel hQ hs hc hn hdone f _ _ _ (inv.set hr' hi) hrest)
  exact ⟨hne,fun i hi=>⟨(hall i hi).1,wpOp_mono (fun a' w' h'=>⟨h'.1,yfg hsel hQ hs hc hn hdone f _ _ _ (inv.set hi (hall i hi).1) h'.2⟩) (hall i hi).2⟩⟩
theorem yfr {id:Nat} {a:Act} {w:World} {l:List Oper} (n t:Nat) (hm:P.follows .mixedOrders=true)
  (hB:(Region.noSelect l.toArray&&decide (n<l.toArray.size)&&Region.sinkB .any l.toArray n&&Region.chainB .any l.toArray n)=true)
  (hQ:∀ c a d v w,Q (.panic c) (Act.put a d v) w→Q (.panic c) a w)
  (h:yeq P .any l.toArray Q S t n (fun listed' a' w'=>Region.seqB .any l.toArray (l.toArray.size-n) n listed'=true∧wpList P l.toArray Q (l.drop n) a' w') n (Array.replicate l.toArray.size false) a w.drew):(Code.region id l.toArray true).wp P Q a w:=by
 simp only [Bool.and_eq_true,decide_eq_true_eq] at hB;obtain⟨⟨⟨hsel,hn⟩,hs⟩,hc⟩:=hB;have hdl:(l.drop n).length=l.toArray.size-n:=by simp
 have inv0:HeadInv .any l.toArray n (Array.replicate l.toArray.size false) :=
  ⟨by simp,fun j oj _ hl=>(by rw [getD_replicate_false] at hl;cases hl),fun t _ ht=>getD_in (by simpa using ht) (getD_replicate_false _ _)⟩
 have H:=yfg hsel hQ hs hc hn (fun listed a w hL=>seqB_ready hL.1) n _ a _ inv0 h;refine wp_region_any hm ?_
 have:=yeN (Q:=Q) (g:=l.toArray.size-n) (fun listed a' w' hL=>by
  have:=wpAny_of_seq (md:=.any) (Q':=Q) (l.drop n) n listed a' w' (fun j=>by simp [List.getElem?_drop]) (by rw [hdl];exact hL.1) hL.2
  rwa [hdl] at this) _ _ _ _ H
 rw [show n+(l.toArray.size-n)=l.toArray.size by omega] at this
 exact this
theorem yaZ {n f:Nat} {L:Array Bool→Act→World→Prop} {listed:Array Bool} {a:Act} {w:World} (i:Nat) {o:Oper} {v:Value} (ho:ops[i]? = some o) (hi:i<n) (hit:i≠t) (hf:Region.free md ops listed i=true) (hr:(Region.ready md ops listed).contains i=true)
  (hg:o.guard=none) (hS:S w) (h1:∀ w,(execOp a.eval o).run P w = .ok (.value v) w)
  (h2:∀ K:Act→Prop,(∀ a,yeq P md ops Q S t n L f (listed.setIfInBounds i true) a w→K a)→K (a.put o.dst v)):yeq P md ops Q S t n L (f+1) listed a w :=
 .inl ⟨i,o,v,fun _=>True,ho,hi,hit,hf,hr,.inl fun _=>trivial,.inl ⟨by simp [Region.wanted,hg],fun w _=>h1 w⟩,fun _=>hS,h2 _ (fun _ h=>h)⟩
theorem ydP {n f:Nat} {L:Array Bool→Act→World→Prop} {listed:Array Bool} {a:Act} {w:World} (i:Nat) {o:Oper} {v:Value} (ho:ops[i]? = some o) (hi:i<n) (hit:i≠t) (hf:Region.free md ops listed i=true) (hr:(Region.ready md ops listed).contains i=true)
  (hw:ydH md ops t i=true) (hg:o.guard=none) (hS:S w) (h1:∀ w,S w→(execOp a.eval o).run P w = .ok (.value v) w)
  (h2:∀ K:Act→Prop,(∀ a,yeq P md ops Q S t n L f (listed.setIfInBounds i true) a w→K a)→K (a.put o.dst v)):yeq P md ops Q S t n L (f+1) listed a w :=
 .inl ⟨i,o,v,S,ho,hi,hit,hf,hr,.inr ⟨fun _ h=>h,hw⟩,.inl ⟨by simp [Region.wanted,hg],h1⟩,fun _=>hS,h2 _ (fun _ h=>h)⟩
theorem yhm {n f:Nat} {L:Array Bool→Act→World→Prop} {listed:Array Bool} {a:Act} {w:World} (i:Nat) {o:Oper} (hr:Region.ready md ops listed=[i]) (hi:i<n) (ho:ops[i]? = some o) (hg:o.guard=none)
  (h:∀ K:Act→World→Prop,(∀ a w,S w→yeq P md ops Q S t n L f (listed.setIfInBounds i true) a w→K a w)→o.wp P a w K Q):yeq P md ops Q S t n L (f+1) listed a w:=by
 refine .inr ⟨by rw [hr];simp,fun j hj=>?_⟩;rw [hr] at hj;obtain rfl:j=i:=by simpa using hj
 refine ⟨hi,?_⟩;unfold wpOp;simp only [ho];rw [if_pos (by simp [Region.wanted,hg])];exact .inl (h _ (fun _ _ h1 h2=>⟨fun _=>h1,h2⟩))
theorem yjq {n f:Nat} {L:Array Bool→Act→World→Prop} {listed:Array Bool} {a:Act} {w:World} {o:Oper} (hr:Region.ready md ops listed=[t]) (hi:t<n) (hl:(listed.setIfInBounds t true).getD t true=true) (ho:ops[t]? = some o) (hg:o.guard=none)
  (h:∀ K:Act→World→Prop,(∀ a w,yeq P md ops Q S t n L f (listed.setIfInBounds t true) a w→K a w)→o.wp P a w K Q):yeq P md ops Q S t n L (f+1) listed a w:=by
 refine .inr ⟨by rw [hr];simp,fun j hj=>?_⟩;rw [hr] at hj;obtain rfl:j=t:=by simpa using hj
 refine ⟨hi,?_⟩;unfold wpOp;simp only [ho];rw [if_pos (by simp [Region.wanted,hg])];exact .inl (h _ (fun _ _ h2=>⟨fun h0=>(by rw [hl] at h0;cases h0),h2⟩))
end
section
open Classical
theorem ycC {k:Nat} {x:K} {q:Rat} (h:Sm k x) (hk:k≤90000) (hq:FitQ 24 q) (w:World):Calls prog 54 #[.agg (kC x),.agg (rC q)] w fun e w'=>e = .returned (.agg (kC (mvK q x)))∧Keep [] w w':=by
 rw [kcells_mv h hk hq];exact Shift_c x.1 q (x.2.2.1.mono (by decide)) (hq.mono (by decide)) w
theorem ybg (x:K):(kC x).toList=kcells x.1∧(kC x).size=9∧(kC x).all (·.oneCell')=true:=⟨rfl,rfl,all_oneCell_toArray (ybT x.1)⟩
theorem ydC {α β:Type} (f:α→β) (l:List α) (k:Nat) (h:k<l.length):(l.take (k+1)).map f=(l.take k).map f++[f l[k]]:=by
 rw [List.take_succ_eq_append_getElem h,List.map_append];rfl
theorem shift_p (l:List (Iv K)) (q:Rat) (k0:Nat) (hk0:k0≤80000) (hsm:∀ i∈l,SmI k0 i) (hq:FitQ 24 q) (w:World) (sv:Value) (hr:IvR w sv l) (h9:l.length≤10000) :
  Calls prog 39 #[sv,rv q] w fun e w'=>∃ v,e = .returned v∧IvR w' v (l.map (mvI q))∧Keep [] w w':=by
 have HCl:=jX (fun u (hu:Keep [] w u)=>clone_c l u sv (hr.later hu) (by omega));have HS:=jX (fun (x:K) (hx:Sm k0 x)=>ycC hx (by omega) hq);have HSm:=jX hsm;obtain⟨ao,ac,rfl,_⟩:=hr.form;clear hr hq hsm;rw [yam] at *;go_enter func39,ntmps39
 go_upto_region 1 with (fail)
 obtain⟨W,ga,hW,ega,Bga,hga,hgW,HkW⟩:=al1h w (.cells (rC q) 28);rw [← hW];try rw [ega]
 clear hW ega;go_wp2_with fail;refine (HCl.out W HkW.out).mono ?_;rintro e w1 ⟨v,rfl,hv⟩;dsimp only;obtain⟨oo,oc,rfl⟩:=hv.form;have HO1:=jX hv;clear hv HCl;go_wp2_with fail;go_loopw [11] (fun c wr=>∃ k:Nat,k≤l.length∧c = .int .i64 (k:Int)∧OI_ W wr (.slice oo l.length oc) ((l.take k).map (mvI q)++l.drop k)) (fun c _=>l.length-(intOf c).toNat)
 case atStart=>exact ⟨0,Nat.zero_le _,rfl,HO1.out⟩
 case round =>
  obtain⟨k,hk,rfl,hov⟩:=hrel;have HO:=jX hov;by_cases hlt:k<l.length
  ·have hd:l.drop k=l[k] :: l.drop (k+1):=List.drop_eq_getElem_cons hlt
   have hs:=HSm.out l[k] (List.getElem_mem hlt);have Hstep:=jX (congrArg (· ++ l.drop (k+1)) (ydC (mvI q) l k hlt));rw [hd] at hov HO;have hal:((l.take k).map (mvI q)).length=k:=by rw [List.length_map,List.length_take];omega
   obtain⟨g,rfl,hg,hgb,hat,_⟩:=hov.mid;rw [hal] at hat;generalize l[k]=s at *;have Hal:=jX hal;generalize (l.take k).map (mvI q)=A at *;obtain⟨D,hD⟩:∃ D,l.drop (k+1)=D:=⟨_,rfl⟩;rw [hD] at Hstep HO;have HD:=jX hD;clear hov hd hal hD;obtain⟨p,hp⟩:∃ p,k*20=p:=⟨_,rfl⟩;rw [hp] at hat;have Hp:=jX hp;have Bgr:=jX ((HO.out.keep).heap Bga.out (by simp));have HXf:Hid (∀ u,Keep [] wr u→(loadVar 30 ⟨g,p,none⟩).run prog u = .ok (.agg (kC s.f.pt)) u):=fun u hu=>yax u g p _ (hat.keep (hu.block g hg (by simp))).frm;have HXt:Hid (∀ u,Keep [] wr u→(loadVar 30 ⟨g,p+9,none⟩).run prog u = .ok (.agg (kC s.l.pt)) u):=fun u hu=>yax u g (p+9) _ (hat.keep (hu.block g hg (by simp))).upto;have HXq:Hid (∀ u,Keep [] wr u→(loadVar 28 ⟨ga,0,none⟩).run prog u = .ok (.agg (rC q)) u):=fun u hu=>ycw (hu.heap Bgr.out (by simp));have H1:=jX (HS.out s.f.pt hs.1);have H2:=jX (HS.out s.l.pt hs.2);have F1:=jX (ybg (mvK q s.f.pt));have F2:=jX (ybg (mvK q s.l.pt));have HSet:=jX (fun u n c (h:OI_ W u (.slice (some ⟨g,0,none⟩) n c) (A++s :: D))=>OI_.setm (s:=s) (t:=mvI q s) rfl rfl h);have HMid:=jX (fun u c (h:OI_ W u (.slice (some ⟨g,0,none⟩) l.length c) (A++s :: D))=>OI_.mid h);rw [Hal.out] at HSet HMid;rw [hp] at HSet HMid;have e1:kcells (mvI q s).f.pt.1=(kC (mvK q s.f.pt)).toList:=rfl;have e2:kcells (mvI q s).l.pt.1=(kC (mvK q s.l.pt)).toList:=rfl;rw [e1,e2] at HSet;clear e1 e2 hat hs;generalize mvI q s=t at *;generalize kC (mvK q s.f.pt)=M1 at *;generalize kC (mvK q s.l.pt)=M2 at *;generalize kC s.f.pt=F at *;generalize kC s.l.pt=L at *;go_wp2_with fail;have hkc:(k:Int)<(l.length:Int):=by omega
   refine yfr (S:=fun u=>Keep [] wr u) 21 20 (by kernel_rfl) (by kernel_rfl) (fun _ _ d _ _ h=>by cases d<;>exact h) ?_;have hS0:=Keep.drew [] wr;generalize World.drew wr=u at *;refine' yaZ (v:=_) 0 (by rfl) (by decide) (by decide) (by kernel_rfl) (by kernel_rfl) (by rfl) hS0 (fun w=>?ha0) (fun K hK=>?ka0)
   case ha0=>(go_simp;try rfl)
   go_simp;go_step
   refine' yaZ (v:=_) 1 (by rfl) (by decide) (by decide) (by kernel_rfl) (by kernel_rfl) (by rfl) hS0 (fun w=>?hb1) (fun K hK=>?kb1)
   case hb1=>(go_simp;try rfl)
   go_simp;go_step
   refine' yaZ (v:=_) 2 (by rfl) (by decide) (by decide) (by kernel_rfl) (by kernel_rfl) (by rfl) hS0 (fun w=>?hc2) (fun K hK=>?kc2)
   case hc2=>(go_simp;try rfl)
   go_simp;go_step
   refine' yaZ (v:=_) 3 (by rfl) (by decide) (by decide) (by kernel_rfl) (by kernel_rfl) (by rfl) hS0 (fun w=>?hd3) (fun K hK=>?kd3)
   case hd3=>(go_simp;try rfl)
   go_simp;go_step
   refine' yaZ (v:=_) 4 (by rfl) (by decide) (by decide) (by kernel_rfl) (by kernel_rfl) (by rfl) hS0 (fun w=>?he4) (fun K hK=>?ke4)
   case he4=>(go_simp;try rfl)
   go_simp;go_step
   refine' yaZ (v:=_) 5 (by rfl) (by decide) (by decide) (by kernel_rfl) (by kernel_rfl) (by rfl) hS0 (fun w=>?hf5) (fun K hK=>?kf5)
   case hf5=>(go_simp;try rfl)
   go_simp;go_step
   refine' yaZ (v:=_) 6 (by rfl) (by decide) (by decide) (by kernel_rfl) (by kernel_rfl) (by rfl) hS0 (fun w=>?hg6) (fun K hK=>?kg6)
   case hg6=>(go_simp;try rfl)
   go_simp;go_step
   refine' yaZ (v:=_) 7 (by rfl) (by decide) (by decide) (by kernel_rfl) (by kernel_rfl) (by rfl) hS0 (fun w=>?hh7) (fun K hK=>?kh7)
   case hh7=>(go_simp;try rfl)
   go_simp;go_step
   refine ydP (v:=.agg F) 8 (by rfl) (by decide) (by decide) (by kernel_rfl) (by kernel_rfl) (by kernel_rfl) (by rfl) hS0 (fun w hw=>yan _ _ ⟨g,p,none⟩ _ rfl rfl (HXf.out w hw)) (fun K hK=>?_);go_simp;go_step
   refine ydP (v:=.agg (rC q)) 9 (by rfl) (by decide) (by decide) (by kernel_rfl) (by kernel_rfl) (by kernel_rfl) (by rfl) hS0 (fun w hw=>yan _ _ ⟨ga,0,none⟩ _ rfl rfl (HXq.out w hw)) (fun K hK=>?_);go_simp;go_step
   refine' yaZ (v:=_) 11 (by rfl) (by decide) (by decide) (by kernel_rfl) (by kernel_rfl) (by rfl) hS0 (fun w=>?hi11) (fun K hK=>?ki11)
   case hi11=>(go_simp;try rfl)
   go_simp;go_step
   refine' yaZ (v:=_) 12 (by rfl) (by decide) (by decide) (by kernel_rfl) (by kernel_rfl) (by rfl) hS0 (fun w=>?hj12) (fun K hK=>?kj12)
   case hj12=>(go_simp;try rfl)
   go_simp;go_step
   refine' yaZ (v:=_) 13 (by rfl) (by decide) (by decide) (by kernel_rfl) (by kernel_rfl) (by rfl) hS0 (fun w=>?hk13) (fun K hK=>?kk13)
   case hk13=>(go_simp;try rfl)
   go_simp;go_step
   refine' yaZ (v:=_) 14 (by rfl) (by decide) (by decide) (by kernel_rfl) (by kernel_rfl) (by rfl) hS0 (fun w=>?hl14) (fun K hK=>?kl14)
   case hl14=>(go_simp;try rfl)
   go_simp;go_step
   refine ydP (v:=.agg L) 15 (by rfl) (by decide) (by decide) (by kernel_rfl) (by kernel_rfl) (by kernel_rfl) (by rfl) hS0 (fun w hw=>yan _ _ ⟨g,p+9,none⟩ _ rfl rfl (HXt.out w hw)) (fun K hK=>?_);go_simp;go_step
   refine ydP (v:=.agg (rC q)) 16 (by rfl) (by decide) (by decide) (by kernel_rfl) (by kernel_rfl) (by kernel_rfl) (by rfl) hS0 (fun w hw=>yan _ _ ⟨ga,0,none⟩ _ rfl rfl (HXq.out w hw)) (fun K hK=>?_);go_simp;go_step
   refine yhm 10 (by kernel_rfl) (by decide) (by rfl) (by rfl) (fun K hK=>?_);refine yaf 54 #[.agg F,.agg (rC q)] (by go_simp) ?_;refine (H1.out _).mono ?_;rintro e u1 ⟨rfl,hk1⟩;have hS0:=hS0.tz hk1;refine ⟨_,rfl,?_⟩;refine hK _ _ hS0 ?_;clear hK K hk1;refine yhm 17 (by kernel_rfl) (by decide) (by rfl) (by rfl) (fun K hK=>?_);refine yaf 54 #[.agg L,.agg (rC q)] (by go_simp) ?_;refine (H2.out _).mono ?_;rintro e u1 ⟨rfl,hk1⟩;have hS0:=hS0.tz hk1;refine ⟨_,rfl,?_⟩;refine hK _ _ hS0 ?_;clear hK K hk1;refine' yaZ (v:=_) 18 (by rfl) (by decide) (by decide) (by kernel_rfl) (by kernel_rfl) (by rfl) hS0 (fun w=>?hm18) (fun K hK=>?km18)
   case hm18=>(go_simp;try rfl)
   go_simp;go_step
   refine' yaZ (v:=_) 19 (by rfl) (by decide) (by decide) (by kernel_rfl) (by kernel_rfl) (by rfl) hS0 (fun w=>?hn19) (fun K hK=>?kn19)
   case hn19=>(go_simp;try rfl)
   go_simp;go_step
   have HO5:=jX (HO.out.later hS0);have HS5:=jX (HSet.out _ _ _ HO5.out);obtain⟨g',eg',_,_,_,ht1,ht2⟩:=HMid.out _ _ HO5.out;injection eg' with eg';injection eg' with eg';subst eg';have HT1:=jX ht1;have HT2:=jX (ht2 M1.toList (by simpa using F1.out.2.1));clear ht1 ht2 HXf HXt HXq H1 H2 HO;refine yjq (by kernel_rfl) (by decide) (by kernel_rfl) (by rfl) (by rfl) (fun K hK=>?_);refine wp_store_mid _ _ _ rfl g p M1 rfl rfl (by rw [F1.out.2.1];exact HT1.out) (by rw [F1.out.2.1];exact k_size) F1.out.2.2 ?_;go_simp;go_step
   refine ⟨by kernel_rfl,?_⟩;simp only [List.drop_succ_cons,List.drop_zero];refine wV ?_;go_simp;refine wV ?_;go_simp;refine yaN (by rfl) _ _ _ rfl g (p+9) M2 rfl rfl (by rw [F2.out.2.1];exact HT2.out) (by rw [F2.out.2.1];exact k_size) F2.out.2.2 (fun K hK=>?_);go_simp;go_step
   clear HT1 HT2;generalize World.setCells (World.setCells _ g p M1.toList) g (p+9) M2.toList=u9 at *;go_wp2_with fail;go_roundw
   case rel=>exact ⟨k+1,by omega,congrArg (Value.int .i64) (by omega),by rw [HD.out,Hstep.out,List.append_assoc];exact HS5.out⟩
   case measure=>simp [intOf];omega
  obtain rfl:k=l.length:=by omega
  have HX:=jX (HO.out.read);have HK:=jX (HkW.out.tz HO.out.keep);have HF:=jX (show (l.take l.length).map (mvI q)++l.drop l.length=l.map (mvI q) by rw [List.take_length,List.drop_length,List.append_nil])
  clear HO hov;go_wp2_with fail;go_ret
  exact ⟨_,rfl,by rw [← HF.out];exact HX.out,HK.out⟩
end
end Go.Proofs.YtpgffjjpiafhpaaGreatDoor
