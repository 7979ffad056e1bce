/- Parts of a proof: Vf Vk Vg Vh Vi Me Mi Mf. -/
import Derived.IntWalk
import Derived.Lib.SliceRun
import Derived.Test.YtejegogbhpmgfaaGreatDoorE32
import Derived.Test.YtejegogbhpmgfaaGreatDoorE31
import Derived.Test.YtejegogbhpmgfaaGreatDoorE29
set_option linter.unusedVariables false
set_option linter.unusedSimpArgs false
set_option maxRecDepth 100000
set_option maxHeartbeats 8000000
namespace Go.Proofs.YtejegogbhpmgfaaGreatDoor
open Go.RowKit Tryz
theorem Rat_c (a:FrA) (w:World):Calls prog 40 #[a.v] w fun e w'=>e = .returned (rv a.q)∧Keep [] w w':=by
 have H:=jX (rat_c a);unfold FrA.v at *;generalize a.q=q at *;generalize a.num=n at *;generalize a.den=d0 at *;generalize a.up=u at *;generalize a.down=v at *;unfold rv at *;go_enter func40,ntmps40
 go_upto_region 1 with (fail)
 obtain⟨W,ga,gb,hW,ega,egb,Bga,Bgb,hga,hgb,hgW,HkW⟩:=al2h w (.cells #[.int .i64 n,.int .i64 d0,.int .u8 u,.int .u8 v] 61) (.cells #[.bool false,.string ⟨#[]⟩,.bool false,.string ⟨#[]⟩] 34);rw [← hW];try rw [egb]
 try rw [ega]
 clear hW ega egb;have pga:=yaa Bga.out;go_wp2_with fail;refine (H.out _).mono ?_;rintro e w9 ⟨rfl,hk9⟩;dsimp only;have HK9:=jX (HkW.out.tz hk9);have Bgb:=jX (hk9.heap Bgb.out (by simp));clear hk9 pga;have pgb:=yaa Bgb.out;have fgb:=yaf Bgb.out;have lgb:=yab Bgb.out;go_wp2_with fail;obtain⟨w10,e10,b10,k10⟩:=st4 (x:=.bool (sgB q.num)) (y:=.string (mgS q.num)) (z:=.bool false) (u:=.string (dnS q.den)) Bgb.out;rw [← e10];clear e10 pgb fgb lgb;have pgb:=yaa b10;refine bodyPost_ret (v:=.agg #[.bool (sgB q.num),.string (mgS q.num),.bool false,.string (dnS q.den)]) ?_ rfl ⟨rfl,HK9.out.trans k10 (by simp;omega)⟩;rw [yag rfl];go_simp
theorem moved_c (x:Qn) (q:Rat) (hx:FitQ 20000000 x.p) (hq:FitQ 20000000 q) (w:World) :
  Calls prog 62 #[qv x,rv q] w fun e w'=>e = .returned (qv ⟨x.p+q,x.r,x.neg⟩)∧Keep [] w w':=by
 have Hs:=jX (yiI x.p q hx hq);unfold qv rv at *;dsimp only;generalize sgB (x.p+q).num=nr at *;generalize mgS (x.p+q).num=sr at *;generalize dnS (x.p+q).den=dr at *;generalize sgB (x.p).num=a1 at *;generalize mgS (x.p).num=a2 at *;generalize dnS (x.p).den=a3 at *;generalize sgB (x.r).num=a4 at *;generalize mgS (x.r).num=a5 at *;generalize dnS (x.r).den=a6 at *;generalize sgB (q).num=b1 at *;generalize mgS (q).num=b2 at *;generalize dnS (q).den=b3 at *;generalize x.neg=a7 at *;clear hx hq;go_enter func62,ntmps62
 go_upto_region 1 with (fail)
 obtain⟨W,ga,gb,gc,hW,ega,egb,egc,Bga,Bgb,Bgc,hga,hgb,hgc,hgW,HkW⟩:=al3h w (.cells #[.bool a1,.string a2,.bool false,.string a3,.bool a4,.string a5,.bool false,.string a6,.bool a7] 36) (.cells #[.bool b1,.string b2,.bool false,.string b3] 34) (.cells #[.bool false,.string ⟨#[]⟩,.bool false,.string ⟨#[]⟩,.bool false,.string ⟨#[]⟩,.bool false,.string ⟨#[]⟩,.bool false] 36);rw [← hW];try rw [egc]
 try rw [egb]
 try rw [ega]
 clear hW ega egb egc;obtain⟨pga,fga,lga⟩:=jQ Bga;obtain⟨pgb,fgb,lgb⟩:=jQ Bgb;go_wp2_with fail;refine (Hs.out _).mono ?_;rintro e wz ⟨rfl,hk_wz⟩;dsimp only;clear Hs pga fga lga pgb fgb lgb;replace Bga:=jH hk_wz Bga;replace Bgb:=jH hk_wz Bgb;replace Bgc:=jH hk_wz Bgc;replace HkW:=jX (HkW.out.tz hk_wz);clear hk_wz;obtain⟨pga,fga,lga⟩:=jQ Bga;obtain⟨pgc,fgc,lgc⟩:=jQ Bgc;go_wp2_with fail;refine bodyPost_ret (v:=.agg #[.bool nr,.string sr,.bool false,.string dr,.bool a4,.string a5,.bool false,.string a6,.bool a7]) ?_ rfl ⟨rfl,by repeat (first|(with_reducible exact HkW.out)|(refine Keep.sP ?_ _ _ _ (by omega))|(refine Keep.aP ?_ _)|(refine Keep.dP ?_))⟩;rw [yag rfl];go_simp
theorem IvR.laterBox {u u':World} {v:Value} {l:List (Iv K)} {g:Nat} {cs:Array Value} {t:TypeId} (h:IvR u v l) (hb:u.heap[g]? = some (.cells cs t)) (hs:cs.size<20) (hk:Keep [g] u u'):IvR u' v l:=by
 rcases h with h|⟨g',o,c,rfl,hc,hg,hx⟩
 ·exact .inl h
 refine .inr ⟨g',o,c,rfl,hc,Nat.lt_of_lt_of_le hg hk.size,fun i v hv=>?_⟩;by_cases hgg:g'=g
 ·subst hgg
  exfalso;cases l with
  | nil=>simp at hv
  | cons x r =>
   have:=hx 19 (.bool (!x.l.beh)) (by rw [List.flatMap_cons,List.getElem?_append_left (by rw [ych];decide)];rfl);rw [yaa hb] at this;have:=(Array.getElem?_eq_some_iff.1 this).1;omega
 rw [World.cell?_of_block (hk.block g' hg (by simp;exact hgg))];exact hx i v hv
def MQ (W u:World) (l:List (Value × List (Iv K))) (bs:List (Nat × Obj)):Prop:=Keep [] W u∧(∀ p∈l,IvR u p.1 p.2)∧∀ b∈bs,u.heap[b.1]? = some b.2∧W.heap.size≤b.1
theorem MQ.start {W u:World} (h:Keep [] W u):MQ W u [] []:=⟨h,by simp,by simp⟩
theorem MQ.move {W u u':World} {l:List (Value × List (Iv K))} {bs:List (Nat × Obj)} (h:MQ W u l bs) (hk:Keep [] u u'):MQ W u' l bs :=
 ⟨h.1.tz hk,fun p hp=>(h.2.1 p hp).later hk,fun b hb=>⟨hk.heap (h.2.2 b hb).1 (by simp),(h.2.2 b hb).2⟩⟩
theorem MQ.add {W u u':World} {l:List (Value × List (Iv K))} {bs:List (Nat × Obj)} (h:MQ W u l bs) (hk:Keep [] u u') {v:Value} {m:List (Iv K)} (hv:IvR u' v m):MQ W u' ((v,m) :: l) bs:=by
 obtain⟨a1,a2,a3⟩:=h.move hk;refine ⟨a1,fun p hp=>?_,a3⟩;rcases List.mem_cons.1 hp with rfl|hp
 ·exact hv
 exact a2 p hp
theorem MQ.new' {W u:World} {l:List (Value × List (Iv K))} {bs:List (Nat × Obj)} (h:MQ W u l bs) (z:Obj):∃ u' g,u.alloc z=u'∧u.heap.size=g∧MQ W u' l ((g,z) :: bs):=by
 have hk:=Keep.alloc [] u z;obtain⟨a1,a2,a3⟩:=h.move hk;refine ⟨_,_,rfl,rfl,a1,a2,fun b hb=>?_⟩;rcases List.mem_cons.1 hb with rfl|hb
 ·exact ⟨World.alloc_heap_new u z,h.1.size⟩
 exact a3 b hb
theorem MQ.put {W u u':World} {l:List (Value × List (Iv K))} {g:Nat} {cs:Array Value} {t:TypeId} {o:Obj} (h:MQ W u l [(g,.cells cs t)]) (hs:cs.size<20) (hb:u'.heap[g]? = some o) (hk:Keep [g] u u'):MQ W u' l [(g,o)]:=by
 obtain⟨a1,a2,a3⟩:=h;have hg:=a3 (g,.cells cs t) (by simp);refine ⟨a1.trans hk (by simp;exact hg.2),fun p hp=>(a2 p hp).laterBox hg.1 hs hk,fun b hb'=>?_⟩;simp at hb';subst hb';exact ⟨hb,hg.2⟩
theorem MQ.get {W u:World} {l:List (Value × List (Iv K))} {bs:List (Nat × Obj)} (h:MQ W u l bs) (v:Value) (m:List (Iv K)) (hm:(v,m)∈l):IvR u v m:=h.2.1 (v,m) hm
section
open Classical
def mvQ (x:Qn) (q:Rat):Qn:=⟨x.p+q,x.r,x.neg⟩
theorem FrA.fq (a:FrA):FitQ 24 a.q:=by
 have hn9:a.num.natAbs<256 ^ 8:=by have:=a.hn;omega
 have hd9:a.d.natAbs<256 ^ 8:=by have:=a.hd;unfold FrA.d;split<;>omega
 have hd0:a.d≠0:=by unfold FrA.d;split<;>omega
 have hN:Fit 24 (a.num*256 ^ (a.up % 9)):=Nat.le_trans (yfJ hn9) (by omega);have hD:Fit 24 (a.d*256 ^ (a.down % 9)):=Nat.le_trans (yfJ hd9) (by omega);unfold FrA.q;have hD0:a.d*256 ^ (a.down % 9)≠0:=fun h=>(Int.mul_eq_zero.1 h).elim hd0 (fun h=>absurd h (by have:=Int.pow_pos (n:=(256:Int)) (m:=a.down % 9) (by decide);omega));generalize a.num*256 ^ (a.up % 9)=N at *;generalize a.d*256 ^ (a.down % 9)=D at *;rcases Int.lt_trichotomy D 0 with h|h|h
 ·rw [← Rat.neg_divInt_neg]
  refine ycO (Fit_iff.2 ?_) (Fit_iff.2 ?_) (by omega)
  ·rw [Int.natAbs_neg];exact Fit_iff.1 hN
  rw [Int.natAbs_neg];exact Fit_iff.1 hD
 ·exact absurd h hD0
 exact ycO hN hD h
def rcells (q:Rat):List Value:=[.bool (sgB q.num),.string (mgS q.num),.bool false,.string (dnS q.den)]
def rC (q:Rat):Array Value:=(rcells q).toArray
theorem ygp (q:Rat):rv q = .agg (rC q):=rfl
theorem infoRat:∃ ie,prog.info? 34=some ie∧ie.size=4:=by
 have h:(prog.info? 34).map (·.size)=some 4:=by kernel_rfl
 cases hi:prog.info? 34 with
 | none=>rw [hi] at h;cases h
 | some ie=>rw [hi] at h;exact ⟨ie,rfl,by simpa using h⟩
theorem ycS {w:World} {g:Nat} {q:Rat} {t:TypeId} (h:w.heap[g]? = some (.cells (rC q) t)):(loadVar 34 ⟨g,0,none⟩).run prog w = .ok (rv q) w:=by
 obtain⟨ie,hie,hs⟩:=infoRat;refine Go.Lib.rl_loadVar_cells 34 ie hie isAgg34 g 0 (rcells q) (by rw [hs];rfl) w (fun k v hk=>?_);rw [Nat.zero_add,yaa h];exact (List.getElem?_toArray ..).trans hk
end
section
open Classical
theorem mvQ_ok {x:Qn} (h:x.Ok) (q:Rat):(mvQ x q).Ok:=⟨h.nn,h.zero,h.sq⟩
noncomputable def mvK (q:Rat) (x:K):K:=if h:FitR 100000 (mvQ x.1 q) then ⟨mvQ x.1 q,mvQ_ok x.2.1 q,h⟩ else x
noncomputable def mvI (q:Rat) (i:Iv K):Iv K:=⟨⟨mvK q i.f.pt,i.f.beh⟩,⟨mvK q i.l.pt,i.l.beh⟩⟩
def Sm (k:Nat) (x:K):Prop:=FitR k x.1
def SmI (k:Nat) (i:Iv K):Prop:=Sm k i.f.pt∧Sm k i.l.pt
theorem Sm.fit {k:Nat} {x:K} {q:Rat} (h:Sm k x) (hq:FitQ 24 q):FitR (k+25) (mvQ x.1 q) :=
 ⟨(FitQ.add h.1 hq).mono (by omega),h.2.mono (by omega)⟩
theorem ydM {k:Nat} {x:K} {q:Rat} (h:Sm k x) (hk:k≤1000) (hq:FitQ 24 q):(mvK q x).1=mvQ x.1 q:=by
 have hf:=h.fit hq;have hf2:FitR 100000 (mvQ x.1 q):=⟨hf.1.mono (by omega),hf.2.mono (by omega)⟩;unfold mvK;rw [dif_pos hf2]
theorem mvK_sm {k:Nat} {x:K} {q:Rat} (h:Sm k x) (hk:k≤1000) (hq:FitQ 24 q):Sm (k+25) (mvK q x):=by
 unfold Sm;rw [ydM h hk hq];exact h.fit hq
theorem mvI_sm {k:Nat} {i:Iv K} {q:Rat} (h:SmI k i) (hk:k≤1000) (hq:FitQ 24 q):SmI (k+25) (mvI q i):=⟨mvK_sm h.1 hk hq,mvK_sm h.2 hk hq⟩
theorem yjh {k:Nat} {x:K} {q:Rat} (h:Sm k x) (hk:k≤900) (hq:FitQ 24 q):mvK (-q) (mvK q x)=x:=by
 refine Subtype.ext ?_;rw [ydM (mvK_sm h (by omega) hq) (by omega) hq.neg,ydM h (by omega) hq];unfold mvQ;have e:x.1.p+q + -q=x.1.p:=by grind
 rw [e]
theorem mvI_back {k:Nat} {i:Iv K} {q:Rat} (h:SmI k i) (hk:k≤900) (hq:FitQ 24 q):mvI (-q) (mvI q i)=i:=by
 unfold mvI;dsimp only;rw [yjh h.1 hk hq,yjh h.2 hk hq]
theorem yiJ {k:Nat} {l:List (Iv K)} {q:Rat} (h:∀ i∈l,SmI k i) (hk:k≤900) (hq:FitQ 24 q):(l.map (mvI q)).map (mvI (-q))=l:=by
 induction l with
 | nil=>rfl
 | cons i l ih =>
  rw [List.map_cons,List.map_cons,mvI_back (h i (by simp)) hk hq,ih (fun j hj=>h j (by simp [hj]))]
theorem ydl (a:InsA):Sm 3 a.k:=ofQ_fit a.fp a.fr
theorem yiO (s:SpanA):SmI 3 s.i:=by
 unfold SpanA.i;split
 ·exact ⟨ydl _,ydl _⟩
 split
 ·exact ⟨ydl _,ydl _⟩
 exact ⟨ydl _,ydl _⟩
theorem yhF {k:Nat} {x:K} {q:Rat} (h:Sm k x) (hk:k≤1000) (hq:FitQ 24 q):kC (mvK q x)=(kcells (mvQ x.1 q)).toArray:=by
 unfold kC;rw [ydM h hk hq]
end
section
open Classical
theorem flat_mid (a b:List (Iv K)) (s t:Iv K) (hf:t.f.beh=s.f.beh) (hl:t.l.beh=s.l.beh):setL (setL ((a++s :: b).flatMap fun i=>icells i) (a.length*20) (kcells t.f.pt.1)) (a.length*20+9) (kcells t.l.pt.1)=(a++t :: b).flatMap fun i=>icells i:=by
 have ha:(a.flatMap fun i=>icells i).length=a.length*20:=yby (fun i:Iv K=>icells i) ych a;rw [List.flatMap_append,List.flatMap_append,List.flatMap_cons,List.flatMap_cons];generalize (a.flatMap fun i=>icells i)=F at *;generalize (b.flatMap fun i=>icells i)=G at *
 have step:∀ (G vs:List Value) (j:Nat),setL (F++G) (F.length+j) vs=F++setL G j vs:=fun G vs j=>by
  unfold setL;rw [List.take_length_add_append,Nat.add_assoc,List.drop_length_add_append,List.append_assoc,List.append_assoc,List.append_assoc]
 rw [← ha];have e0:setL (F++(icells s++G)) F.length (kcells t.f.pt.1)=F++setL (icells s++G) 0 (kcells t.f.pt.1):=step _ _ 0;rw [e0,step];congr 1
 unfold icells;rw [hf,hl];rfl
theorem OI_.setm {w0 w:World} {g n c:Nat} {a b:List (Iv K)} {s t:Iv K} (hf:t.f.beh=s.f.beh) (hl:t.l.beh=s.l.beh) (h:OI_ w0 w (.slice (some ⟨g,0,none⟩) n c) (a++s :: b)) :
  OI_ w0 ((w.setCells g (a.length*20) (kcells t.f.pt.1)).setCells g (a.length*20+9) (kcells t.l.pt.1)) (.slice (some ⟨g,0,none⟩) n c) (a++t :: b):=by
 have hr:=h.row;have hlen:(a++s :: b).length=(a++t :: b).length:=by simp
 have hbig:a.length+1≤(a++s :: b).length:=by simp
 have hn:n=(a++s :: b).length:=by
  obtain⟨po,pc,e⟩:=h.form;injection e
 subst hn;rw [hlen] at *;obtain⟨h1,k1⟩:=yaY hr (o:=a.length*20) (vs:=kcells t.f.pt.1) (by rw [yat];omega);obtain⟨h2,k2⟩:=yaY h1 (o:=a.length*20+9) (vs:=kcells t.l.pt.1) (by rw [yat];omega);rw [flat_mid a b s t hf hl] at h2;have hg:=h.base g rfl;exact ⟨h2,h.base,(h.keep.trans k1 (by simp;exact hg)).trans k2 (by simp;exact hg)⟩
theorem OI_.mid {w0 w:World} {ov:Option Addr} {n c:Nat} {a b:List (Iv K)} {s:Iv K} (h:OI_ w0 w (.slice ov n c) (a++s :: b)) :
  ∃ g,ov=some ⟨g,0,none⟩∧g<w.heap.size∧w0.heap.size≤g∧IvAt w g (a.length*20) s∧w.there g (a.length*20) 9∧∀ vs:List Value,vs.length=9→(w.setCells g (a.length*20) vs).there g (a.length*20+9) 9:=by
 have hr:=h.row;have hb:=h.base;have hbig:a.length+1≤(a++s :: b).length:=by simp
 have hn:n=(a++s :: b).length:=by
  obtain⟨po,pc,e⟩:=h.form;injection e
 subst hn;obtain⟨g',o,e,hg,hat⟩:=IvR.elem h.read a.length (by omega);rcases hr.2 with ⟨hv,_⟩|⟨g,cap,cur,hv,_,hgg,_⟩
 ·injection hv with e1
  rw [e1] at e;cases e
 injection hv with e1 e2 e3;subst e1 e3;have e':=e;injection e' with e';injection e' with e4 e5;subst e4 e5;have hs:(a++s :: b)[a.length]'(by omega)=s:=by simp
 rw [hs] at hat;refine ⟨g,rfl,hg,hb g rfl,by simpa using hat,ycM hr (by omega),fun vs hvs=>?_⟩;obtain⟨h1,k1⟩:=yaY hr (o:=a.length*20) (vs:=vs) (by omega);exact ycM h1 (by omega)
theorem OI_.rowI {w0 w:World} {v:Value} {l:List (Iv K)} (h:OI_ w0 w v l):IvR w v l:=h.read
theorem clone_c (l:List (Iv K)) (w:World) (sv:Value) (hr:IvR w sv l) (h9:l.length≤100000) :
  Calls prog 73 #[sv] w fun e w'=>∃ v,e = .returned v∧OI_ w w' v l:=by
 have HR:=jX hr;have q22:∀ (w:World) (a:Option Addr) (n c n' c':Nat),(binOp .eql 27 (.slice a n c) (.slice none n' c')).run prog w = .ok (.bool a.isNone) w:=fun w a n c n' c'=>Lib.run_eql_slice_nil w _ _ a n c n' c' underlying27;rcases hr with ⟨rfl,rfl⟩|⟨g,o,c,rfl,hc,hg,_⟩
 ·clear HR
  go_enter func73,ntmps73
  go_wp2_with fail;go_ret
  exact ⟨_,rfl,OE.nil w⟩
 clear hg hc;go_enter func73,ntmps73
 go_upto_region 3 with (fail)
 refine wp_region_lit ?_;obtain⟨ub,gx,e3,e4,hz1,hx⟩:=OI_.start w;refine yar (v:=.slice (some ⟨w.heap.size,0,none⟩) 0 0) (by rfl) (yaF 27 0 #[] #[] _ rfl (by simp) (yjb w)) (fun K hK=>?_);rw [e3,e4];clear e3;go_simp;refine hK _ _ ?_;clear hK K;refine' yad (v:=_) (by rfl) (?ha) (fun K hK=>?ka)
 case ha=>(go_simp;try rfl)
 go_simp;refine hK _ _ ?_;clear hK K;obtain⟨v4,u4,hr4,ho4,hn4,_⟩:=IvR.app (ty:=27) hx (.inl (by simp [Value.ownBlock])) (HR.out.later hx.keep) (by simp;omega);refine yar (by rfl) (yav (.tmp 5) (.tmp 6) 27 _ _ _ rfl rfl rfl hr4) (fun K hK=>?_);go_simp;refine hK _ _ ?_;clear hK K hr4;have HN:=jX ho4;clear ho4 hn4 hx;go_wp2_with fail;go_ret
 exact ⟨_,rfl,HN.out⟩
end
section
open Classical
section
variable {S:List K} {w0 w w' W:World} {L M:List (Value × List (Iv K))}
theorem MP.sub (h:MP S w0 w L) (hs:∀ p∈M,p∈L):MP S w0 w M:=⟨⟨h.mi.1,fun p hp=>h.mi.2 p (hs p hp)⟩,fun p hp=>h.per p (hs p hp),h.few⟩
theorem MP.here (h:MP S w0 w L):MP S w w L:=⟨⟨Keep.refl _ _,h.mi.2⟩,h.per,h.few⟩
theorem MP.fin (hk0:Keep [] w0 w) (hkW:Keep [] w W) (h:MP S W w' L) {g:Nat} {cs:Array Value} {t:TypeId} {u:World} (hb:w'.heap[g]? = some (.cells cs t)) (hs:cs.size<20) (hg:w.heap.size≤g) (hk:Keep [g] w' u) (hm:∀ p∈M,p∈L):MP S w0 u M :=
 ⟨⟨hk0.tz ((hkW.tz h.mi.1).trans hk (by simp;exact hg)),fun p hp=>(h.mi.2 p (hm p hp)).laterBox hb hs hk⟩,fun p hp=>h.per p (hm p hp),h.few⟩
variable {v u:Value} {a b:List (Iv K)}
theorem MP.cont (h:MP S w0 w L) (hv:(v,a)∈L) (t:K):Calls prog 65 #[v,kv t] w (BoolPost S w0 L (holds a t)) :=
 ydg h (yjK a t w v (h.get hv) (by have:=h.len hv;omega))
theorem MP.hold (h:MP S w0 w L) (hv:(v,a)∈L) (t:K):Calls prog 23 #[v,kv t] w (BoolPost S w0 L (holds a t)) :=
 ydg h (yhP a t w v (h.get hv) (by have:=h.len hv;omega))
theorem MP.clone (h:MP S w0 w L) (hv:(v,a)∈L):Calls prog 73 #[v] w (PerPost S w0 L a) :=
 ybH h (h.per _ hv) ((clone_c a w v (h.get hv) (by have:=h.len hv;omega)).mono fun e w' ⟨v,he,ho⟩=>⟨v,he,ho.rowI,ho.keep⟩)
end
def BolPost (S:List K) (w0:World) (L:List (Value × List (Iv K))) (D T:List (Iv K)) (e:Ending) (w':World):Prop :=
 ∃ a c b d,e = .returned (.agg #[.slice a D.length c,.slice b T.length d])∧MP S w0 w' ((.slice a D.length c,D) :: (.slice b T.length d,T) :: L)
section
variable {S:List K} {w0 w:World} {L:List (Value × List (Iv K))} {D T E U P:List (Iv K)} {da ta ea ua pa:Option Addr} {dc tc ec uc pc:Nat}
theorem MP.mlift (h:MP S w0 w L) (hD:(.slice da D.length dc,D)∈L) (hT:(.slice ta T.length tc,T)∈L) (hE:(.slice ea E.length ec,E)∈L) (hU:(.slice ua U.length uc,U)∈L) (hP:(.slice pa P.length pc,P)∈L) :
  Calls prog 72 #[.agg #[.slice da D.length dc,.slice ta T.length tc],.agg #[.slice ea E.length ec,.slice ua U.length uc],.slice pa P.length pc] w (BolPost S w0 L (yaz 2 D E) (yaz 2 (yaz 2 D E) P)):=by
 have hP:=jX hP;have H0:=jX h;have hD:=jX hD;have hT:=jX hT;have hE:=jX hE;have hU:=jX hU;clear h;go_enter func72,ntmps72
 go_upto_region 1 with (fail)
 obtain⟨W,ga,gb,gc,hW,ega,egb,egc,Bga,Bgb,Bgc,hga,hgb,hgc,hgW,HkW⟩:=al3h w (.cells #[.slice da D.length dc,.slice ta T.length tc] 29) (.cells #[.slice ea E.length ec,.slice ua U.length uc] 29) (.cells #[.slice none 0 0,.slice none 0 0] 29);rw [← hW];try rw [egc]
 try rw [egb]
 try rw [ega]
 clear hW ega egb egc;have HM:=jX (H0.out.here.move HkW.out).here;have pga:=yaa Bga.out;have pgb:=yaa Bgb.out;go_wp2_with fail;refine (HM.out.inter (v:=.slice da D.length dc) (a:=D) (u:=.slice ea E.length ec) (b:=E) (by simp [hD.out,hT.out,hE.out,hU.out]) (by simp [hD.out,hT.out,hE.out,hU.out])).mono ?_;rintro e w1 ⟨vo_w1,vc_w1,rfl,hm_w1⟩;dsimp only;have HM:=jX hm_w1;clear hm_w1;clear pga pgb;go_wp2_with fail;refine (HM.out.inter (v:=.slice vo_w1 (yaz 2 D E).length vc_w1) (a:=yaz 2 D E) (u:=.slice pa P.length pc) (b:=P) (by simp) (by simp [hP.out])).mono ?_;rintro e w2 ⟨vo_w2,vc_w2,rfl,hm_w2⟩;dsimp only;have HM:=jX hm_w2;clear hm_w2;have bz:=jX (HM.out.keep.heap Bgc.out (by simp));have pgc:=yaa bz.out;have fgc:=yaf bz.out;have lgc:=yab bz.out;go_wp2_with fail;obtain⟨u9,e9,b9,k9⟩:=st2 (x:=.slice vo_w1 (yaz 2 D E).length vc_w1) (y:=.slice vo_w2 (yaz 2 (yaz 2 D E) P).length vc_w2) bz.out;rw [← e9];clear e9 pgc fgc lgc;have pgc:=yaa b9;refine bodyPost_ret (v:=.agg #[.slice vo_w1 (yaz 2 D E).length vc_w1,.slice vo_w2 (yaz 2 (yaz 2 D E) P).length vc_w2]) ?_ rfl ⟨_,_,_,_,rfl,MP.fin H0.out.keep HkW.out HM.out bz.out (by simp) (by omega) k9 ?_⟩
 ·rw [yag rfl];go_simp
 intro p hp;simp only [List.mem_cons] at hp ⊢;grind
end
end
section
open Classical
section
variable {S:List K} {w0 w:World} {L:List (Value × List (Iv K))} {D T E U P:List (Iv K)} {da ta ea ua pa:Option Addr} {dc tc ec uc pc:Nat}
theorem MP.rmake (h:MP S w0 w L) (hD:(.slice da D.length dc,D)∈L) (hT:(.slice ta T.length tc,T)∈L) :
  Calls prog 60 #[.slice da D.length dc,.slice ta T.length tc] w (BolPost S w0 L D (yaz 2 T D)):=by
 have H0:=jX h;have hD:=jX hD;have hT:=jX hT;clear h;go_enter func60,ntmps60
 go_upto_region 1 with (fail)
 obtain⟨W,ga,hW,ega,Bga,hga,hgW,HkW⟩:=al1h w (.cells #[.slice none 0 0,.slice none 0 0] 29);rw [← hW];try rw [ega]
 clear hW ega;have HM:=jX (H0.out.here.move HkW.out).here;go_wp2_with fail;refine (HM.out.rnorm (v:=.slice da D.length dc) (a:=D) (by simp [hD.out,hT.out])).mono ?_;rintro e w1 ⟨vo_w1,vc_w1,rfl,hm_w1⟩;dsimp only;have HM:=jX hm_w1;clear hm_w1;go_wp2_with fail;refine (HM.out.comb (op:=2) (by simp) (v:=.slice ta T.length tc) (a:=T) (u:=.slice da D.length dc) (b:=D) (by simp [hD.out,hT.out]) (by simp [hD.out,hT.out])).mono ?_;rintro e w2 ⟨vo_w2,vc_w2,rfl,hm_w2⟩;dsimp only;have HM:=jX hm_w2;clear hm_w2;have bz:=jX (HM.out.keep.heap Bga.out (by simp));have pga:=yaa bz.out;have fga:=yaf bz.out;have lga:=yab bz.out;go_wp2_with fail;obtain⟨u9,e9,b9,k9⟩:=st2 (x:=.slice vo_w1 (D).length vc_w1) (y:=.slice vo_w2 (yaz 2 T D).length vc_w2) bz.out;rw [← e9];clear e9 pga fga lga;have pga:=yaa b9;refine bodyPost_ret (v:=.agg #[.slice vo_w1 (D).length vc_w1,.slice vo_w2 (yaz 2 T D).length vc_w2]) ?_ rfl ⟨_,_,_,_,rfl,MP.fin H0.out.keep HkW.out HM.out bz.out (by simp) (by omega) k9 ?_⟩
 ·rw [yag rfl];go_simp
 intro p hp;simp only [List.mem_cons] at hp ⊢;grind
theorem MP.mand (h:MP S w0 w L) (hD:(.slice da D.length dc,D)∈L) (hT:(.slice ta T.length tc,T)∈L) (hE:(.slice ea E.length ec,E)∈L) (hU:(.slice ua U.length uc,U)∈L) :
  Calls prog 29 #[.agg #[.slice da D.length dc,.slice ta T.length tc],.agg #[.slice ea E.length ec,.slice ua U.length uc]] w (BolPost S w0 L (yaz 2 D E) (yaz 2 (yaz 2 D E) (yaz 2 T U))):=by
 have H0:=jX h;have hD:=jX hD;have hT:=jX hT;have hE:=jX hE;have hU:=jX hU;clear h;go_enter func29,ntmps29
 go_upto_region 1 with (fail)
 obtain⟨W,ga,gb,gc,hW,ega,egb,egc,Bga,Bgb,Bgc,hga,hgb,hgc,hgW,HkW⟩:=al3h w (.cells #[.slice da D.length dc,.slice ta T.length tc] 29) (.cells #[.slice ea E.length ec,.slice ua U.length uc] 29) (.cells #[.slice none 0 0,.slice none 0 0] 29);rw [← hW];try rw [egc]
 try rw [egb]
 try rw [ega]
 clear hW ega egb egc;have HM:=jX (H0.out.here.move HkW.out).here;refine yaj (S:=fun u=>Keep [] W u) 8 (by kernel_rfl) (by kernel_rfl) (fun _ _ d _ _ h=>by cases d<;>exact h) ?_;have HM:=jX (HM.out.move (Keep.drew [] W));generalize World.drew W=u at *;have hS0:=HM.out.keep;refine' jV (v:=_) 0 hS0 (fun w hw=>?hf0) (fun K hK=>?kf0)
 case hf0=>(have pga:=yaa (hw.heap Bga.out (by simp));have pgb:=yaa (hw.heap Bgb.out (by simp));go_simp;try rfl)
 go_simp;refine hK _ ?_;clear hK K;refine' jV (v:=_) 1 hS0 (fun w hw=>?hf1) (fun K hK=>?kf1)
 case hf1=>(have pga:=yaa (hw.heap Bga.out (by simp));have pgb:=yaa (hw.heap Bgb.out (by simp));go_simp;try rfl)
 go_simp;refine hK _ ?_;clear hK K;refine' jV (v:=_) 2 hS0 (fun w hw=>?hf2) (fun K hK=>?kf2)
 case hf2=>(have pga:=yaa (hw.heap Bga.out (by simp));have pgb:=yaa (hw.heap Bgb.out (by simp));go_simp;try rfl)
 go_simp;refine hK _ ?_;clear hK K;refine' jV (v:=_) 3 hS0 (fun w hw=>?hf3) (fun K hK=>?kf3)
 case hf3=>(have pga:=yaa (hw.heap Bga.out (by simp));have pgb:=yaa (hw.heap Bgb.out (by simp));go_simp;try rfl)
 go_simp;refine hK _ ?_;clear hK K;refine' jV (v:=_) 4 hS0 (fun w hw=>?hf4) (fun K hK=>?kf4)
 case hf4=>(have pga:=yaa (hw.heap Bga.out (by simp));have pgb:=yaa (hw.heap Bgb.out (by simp));go_simp;try rfl)
 go_simp;refine hK _ ?_;clear hK K;refine' jV (v:=_) 5 hS0 (fun w hw=>?hf5) (fun K hK=>?kf5)
 case hf5=>(have pga:=yaa (hw.heap Bga.out (by simp));have pgb:=yaa (hw.heap Bgb.out (by simp));go_simp;try rfl)
 go_simp;refine hK _ ?_;clear hK K;refine jO 6 (fun K hK=>?_);refine yae 71 #[.slice ta T.length tc,.slice ua U.length uc] (by go_simp) ?_;refine (HM.out.inter (v:=.slice ta T.length tc) (a:=T) (u:=.slice ua U.length uc) (b:=U) (by simp [hD.out,hT.out,hE.out,hU.out]) (by simp [hD.out,hT.out,hE.out,hU.out])).mono ?_;rintro e w1 ⟨vo_w1,vc_w1,rfl,hm_w1⟩;have HM:=jX hm_w1;clear hm_w1;refine ⟨_,rfl,?_⟩;have hS0:=HM.out.keep;go_simp;refine hK _ _ hS0 ?_;clear hK K;refine jO 7 (fun K hK=>?_);refine yae 72 #[.agg #[.slice da D.length dc,.slice ta T.length tc],.agg #[.slice ea E.length ec,.slice ua U.length uc],.slice vo_w1 (yaz 2 T U).length vc_w1] (by go_simp) ?_;refine (HM.out.mlift (D:=D) (T:=T) (E:=E) (U:=U) (P:=yaz 2 T U) (by simp [hD.out,hT.out,hE.out,hU.out]) (by simp [hD.out,hT.out,hE.out,hU.out]) (by simp [hD.out,hT.out,hE.out,hU.out]) (by simp [hD.out,hT.out,hE.out,hU.out]) (by simp [hD.out,hT.out,hE.out,hU.out])).mono ?_;rintro e w2 ⟨da_w2,dc_w2,ta_w2,tc_w2,rfl,hm_w2⟩;have HM:=jX hm_w2;clear hm_w2;refine ⟨_,rfl,?_⟩;have hS0:=HM.out.keep;go_simp;refine hK _ _ hS0 ?_;clear hK K;refine ⟨by kernel_rfl,?_⟩;simp only [List.drop_succ_cons,List.drop_zero];have bz:=jX (HM.out.keep.heap Bgc.out (by simp));have pgc:=yaa bz.out;have fgc:=yaf bz.out;have lgc:=yab bz.out;go_wp2_with fail;obtain⟨u9,e9,b9,k9⟩:=st2 (x:=.slice da_w2 (yaz 2 D E).length dc_w2) (y:=.slice ta_w2 (yaz 2 (yaz 2 D E) (yaz 2 T U)).length tc_w2) bz.out;rw [← e9];clear e9 pgc fgc lgc;have pgc:=yaa b9;refine bodyPost_ret (v:=.agg #[.slice da_w2 (yaz 2 D E).length dc_w2,.slice ta_w2 (yaz 2 (yaz 2 D E) (yaz 2 T U)).length tc_w2]) ?_ rfl ⟨_,_,_,_,rfl,MP.fin H0.out.keep HkW.out HM.out bz.out (by simp) (by omega) k9 ?_⟩
 ·rw [yag rfl];go_simp
 intro p hp;simp only [List.mem_cons] at hp ⊢;grind
end
end
section
open Classical
theorem sequal_c (l m:List (Iv K)) (w:World) (sv tv:Value) (hr:IvR w sv l) (hs:IvR w tv m) (h9:l.length≤1000000000) (h8:m.length≤1000000000) :
  Calls prog 124 #[sv,tv] w fun e w'=>e = .returned (.bool (decide (l=m)))∧Keep [] w w':=by
 have HR:=jX hr;have HS:=jX hs;obtain⟨ao,ac,rfl,_⟩:=hr.form;obtain⟨bo,bc,rfl,_⟩:=hs.form;clear hr hs;by_cases hlen:l.length=m.length
 ·have hne:((l.length:Int) != (m.length:Int))=false:=by rw [hlen];simp
  have Hlen:=jX hlen;clear hlen;go_enter func124,ntmps124
  go_wp2_with fail;go_loopw [13] (fun c wr=>∃ k:Nat,k≤l.length∧c = .int .i64 (k:Int)∧l.take k=m.take k∧Keep [] w wr) (fun c _=>l.length-(intOf c).toNat)
  case atStart=>exact ⟨0,Nat.zero_le _,rfl,rfl,Keep.refl _ _⟩
  case round =>
   obtain⟨k,hk,rfl,heq,hkeep⟩:=hrel;have Heq:=jX heq;have HKr:=jX hkeep;clear heq hkeep;by_cases hlt:k<l.length
   ·have hlt2:k<m.length:=by rw [← Hlen.out];exact hlt
    obtain⟨g,o,rfl,hg,hat⟩:=IvR.elem (HR.out.later HKr.out) k hlt;obtain⟨g2,o2,rfl,hg2,hat2⟩:=IvR.elem (HS.out.later HKr.out) k hlt2;obtain⟨i,hi⟩:∃ i,l[k]=i:=⟨_,rfl⟩;obtain⟨j,hj⟩:∃ j,m[k]=j:=⟨_,rfl⟩;have Hi:=jX hi;have Hj:=jX hj;rw [hi] at hat;rw [hj] at hat2;clear hi hj;obtain⟨p,hp⟩:∃ p,o+k*20=p:=⟨_,rfl⟩;obtain⟨q,hq⟩:∃ q,o2+k*20=q:=⟨_,rfl⟩;rw [hp] at hat;rw [hq] at hat2;have HLa:=jX (hat.ld hg);have HLb:=jX (hat2.ld hg2);have HN:=jX (neqI_run i j);clear hat hat2;unfold iv at *;generalize iC i=I at *;generalize iC j=J at *;by_cases hij:i=j
    ·rw [decide_eq_true hij] at HN
     have Hij:=jX hij;clear hij;go_wp2_with fail;refine yac (by kernel_rfl) (by kernel_rfl) ?_
     repeat (first
      | go_big_quiet_skip
      | (go_big_quiet_want;first
       | (refine yai _ _ _ (.agg I) rfl rfl (by rintro _ ⟨m,rfl⟩;exact HLa.out m) ?_;go_simp;go_big_quiet_on)|(refine yai _ _ _ (.agg J) rfl rfl (by rintro _ ⟨m,rfl⟩;exact HLb.out m) ?_;go_simp;go_big_quiet_on)|(refine yck _ _ _ _ _ _ _ (_) rfl rfl rfl eqI_g (by intro w;exact HN.out w) ?_;go_simp;go_big_quiet_on)
       | (go_big_quiet_op;first|go_big_quiet_on|go_big_quiet_call (first
        | fail))))
     refine wpQuiet_nil ?_;rintro w1 ⟨⟨_,hk_w1⟩,rfl⟩;clear HLa HLb HN;have Hk1:=jX hk_w1;clear hk_w1;go_wp2_with fail;go_roundw
     case rel=>exact ⟨k+1,by omega,congrArg (Value.int .i64) (by omega),by rw [List.take_succ_eq_append_getElem hlt,List.take_succ_eq_append_getElem hlt2,Heq.out,Hi.out,Hj.out,Hij.out],HKr.out.tz Hk1.out⟩
     case measure=>simp [intOf];omega
    rw [decide_eq_false hij] at HN;have Hij:=jX hij;clear hij;go_wp2_with fail;refine yac (by kernel_rfl) (by kernel_rfl) ?_
    repeat (first
     | go_big_quiet_skip
     | (go_big_quiet_want;first
      | (refine yai _ _ _ (.agg I) rfl rfl (by rintro _ ⟨m,rfl⟩;exact HLa.out m) ?_;go_simp;go_big_quiet_on)|(refine yai _ _ _ (.agg J) rfl rfl (by rintro _ ⟨m,rfl⟩;exact HLb.out m) ?_;go_simp;go_big_quiet_on)|(refine yck _ _ _ _ _ _ _ (_) rfl rfl rfl eqI_g (by intro w;exact HN.out w) ?_;go_simp;go_big_quiet_on)
      | (go_big_quiet_op;first|go_big_quiet_on|go_big_quiet_call (first
       | fail))))
    refine wpQuiet_nil ?_;rintro w1 ⟨⟨_,hk_w1⟩,rfl⟩;clear HLa HLb HN;have Hk1:=jX hk_w1;clear hk_w1;go_wp2_with fail;go_ret
    have hno:l≠m:=fun e=>Hij.out (by rw [← Hi.out,← Hj.out];simp only [e]);exact ⟨by rw [decide_eq_false hno];rfl,HKr.out.tz Hk1.out⟩
   obtain rfl:k=l.length:=by omega
   go_wp2_with fail;go_ret
   have he:l=m:=by
    have:=Heq.out;rw [List.take_length,Hlen.out,List.take_length] at this;exact this
   exact ⟨by rw [decide_eq_true he];rfl,HKr.out⟩
 have hne:((l.length:Int) != (m.length:Int))=true:=by rw [bne_iff_ne];omega
 have hno:l≠m:=fun e=>hlen (by rw [e]);rw [decide_eq_false hno];clear hno hlen;go_enter func124,ntmps124
 go_wp2_with fail;go_ret
 exact ⟨rfl,Keep.refl _ _⟩
theorem pequal_c (l m:List (Iv K)) (w:World) (sv tv:Value) (hr:IvR w sv l) (hs:IvR w tv m) (h9:l.length≤1000000000) (h8:m.length≤1000000000) :
  Calls prog 80 #[sv,tv] w fun e w'=>e = .returned (.bool (decide (l=m)))∧Keep [] w w':=by
 have H:=jX (sequal_c l m w sv tv hr hs h9 h8);obtain⟨ao,ac,rfl,_⟩:=hr.form;obtain⟨bo,bc,rfl,_⟩:=hs.form;clear hr hs;generalize decide (l=m)=r at *;go_enter func80,ntmps80
 go_wp2_with fail;refine H.out.mono ?_;rintro e w1 ⟨rfl,hk⟩;dsimp only;have HK:=jX hk;clear hk H;go_wp2_with fail;go_ret
 exact ⟨rfl,HK.out⟩
end
end Go.Proofs.YtejegogbhpmgfaaGreatDoor
