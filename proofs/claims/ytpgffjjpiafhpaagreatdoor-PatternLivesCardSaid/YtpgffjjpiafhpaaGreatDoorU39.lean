/- Parts of a proof: Ea Ed El Bp En. -/
import Derived.Test.YtpgffjjpiafhpaaGreatDoorU25
import Derived.Test.YtpgffjjpiafhpaaGreatDoorU15
import Derived.Test.YtpgffjjpiafhpaaGreatDoorU38
set_option linter.unusedVariables false
set_option linter.unusedSimpArgs false
set_option linter.unusedSectionVars false
set_option maxRecDepth 100000
set_option maxHeartbeats 8000000
namespace Go.Proofs.YtpgffjjpiafhpaaGreatDoor
open Go.RowKit Tryz
section
open Classical
open Go.ChangeShapes Go.WideShapes Go.ChangeAt
def RRArg (_:World) (v:Value):Prop:=∃ x:RawR,v=x.v∧x.sz 140737488351232
theorem RRArg_open {H:Type} {enc:TypeId × Value→H} {W:World} {v:Value} {base:Nat} {d:DataW H} {p:List MemPlace} (hv:Value.okWide prog W .any base 30 v)
  (h:∃ m,DataW.trod enc prog W 0 (fun _=>true) true m 30 v.cells.toList=some (d,p)) (hw:Wt 30 d reachBytes):RRArg W v:=by
 obtain⟨m,hm⟩:=h;obtain⟨r,ha,hs⟩:=yju hm;exact ⟨r,ygK ha (by simp [RawR.cells]),hs _ hw⟩
theorem dn_fit {d:Nat} (h:(dnS d).size≤8):Fit 8 (d:Int):=by
 unfold dnS at h;split at h
 ·rename_i he
  subst he;exact (ybM (n:=1) (by decide)).2.mono (by decide)
 exact h
theorem yhg {w:World} {g:Nat} {x:RawR} (h:w.heap[g]? = some (.cells x.cells.toArray 30)):(loadVar 30 ⟨g,0,none⟩).run prog w = .ok (.agg x.cells.toArray) w:=by
 obtain⟨ie,hie,hs⟩:=infoReal;exact Go.Lib.rl_loadVar_cells 30 ie hie isAgg30 g 0 x.cells (by rw [hs];rfl) w (fun k v hk=>by rw [Nat.zero_add,yab h];exact (List.getElem?_toArray ..).trans hk)
noncomputable def RawR.ok (x:RawR):Bool:=decide (x.a2.size+x.a4.size≤8)&&(decide (x.b2.size+x.b4.size≤8)&&decide x.isK)
theorem RawR.ok_some {x:RawR} (h:x.ok=true):∃ t:K,Sm 8 t∧x.cells.toArray=kC t:=by
 unfold RawR.ok at h;simp only [Bool.and_eq_true,decide_eq_true_iff] at h;obtain⟨h1,h2,q,hq,rfl⟩:=h
 have f:FitR 8 q:=by
  refine ⟨⟨?_,dn_fit ?_⟩,⟨?_,dn_fit ?_⟩⟩
  ·unfold Fit;exact Nat.le_trans (Nat.le_add_right _ _) h1
  ·exact Nat.le_trans (Nat.le_add_left _ _) h1
  ·unfold Fit;exact Nat.le_trans (Nat.le_add_right _ _) h2
  exact Nat.le_trans (Nat.le_add_left _ _) h2
 exact ⟨⟨q,hq,f.1.mono (by decide),f.2.mono (by decide)⟩,f,rfl⟩
theorem small_c (x:RawR) (hs:x.sz 140737488351232) (w:World):Calls prog 51 #[x.v] w fun e w'=>e = .returned (.bool x.ok)∧Below w.heap.size w w':=by
 obtain⟨w1,w2⟩:IntKind.i64.wrap ((x.a2.size:Int)+(x.a4.size:Int))=(x.a2.size:Int)+(x.a4.size:Int)∧IntKind.i64.wrap ((x.b2.size:Int)+(x.b4.size:Int))=(x.b2.size:Int)+(x.b4.size:Int):=by
  unfold RawR.sz at hs;exact ⟨IntWalk.i64_in _ (by omega),IntWalk.i64_in _ (by omega)⟩
 clear hs;unfold RawR.ok;by_cases h8:x.a2.size+x.a4.size≤8
 ·have hd:((x.a2.size:Int)+(x.a4.size:Int))≤8:=by omega
  rw [decide_eq_true h8,Bool.true_and];by_cases h9:x.b2.size+x.b4.size≤8
  ·have hd2:((x.b2.size:Int)+(x.b4.size:Int))≤8:=by omega
   have HC:=jX (rchk_p x ⟨by omega,by omega,by omega,by omega⟩);rw [decide_eq_true h9,Bool.true_and];clear h8 h9;generalize decide x.isK=r at *;have HL:=jX (fun (u:World) (g:Nat)=>yhg (w:=u) (g:=g) (x:=x));unfold RawR.v at HC ⊢;unfold RawR.cells at HL;obtain⟨a1,a2,a3,a4,b1,b2,b3,b4,n⟩:=x;dsimp only at *;go_enter func51,ntmps51
   go_upto_region 1 with (fail)
   obtain⟨W,ga,hW,ega,Bga,hga,hgW,HkW⟩:=al1h w (.cells #[.bool a1,.string a2,.bool a3,.string a4,.bool b1,.string b2,.bool b3,.string b4,.bool n] 30);rw [← hW];try rw [ega]
   clear hW ega;have pga:=yab Bga.out;refine wp_region_lit ?_;iterate 27 (first|(refine gV ?_;go_simp)|(refine gS ?_;go_simp))
   refine gU (v:=.agg #[.bool a1,.string a2,.bool a3,.string a4,.bool b1,.string b2,.bool b3,.string b4,.bool n]) (yan _ _ ⟨ga,0,none⟩ _ rfl rfl (HL.out _ _ Bga.out)) ?_;go_simp;refine gWC (by rfl) (fun K hK=>?_);refine yaf 75 #[.agg #[.bool a1,.string a2,.bool a3,.string a4,.bool b1,.string b2,.bool b3,.string b4,.bool n]] (by go_simp) ?_;refine (HC.out _).mono ?_;rintro e9 w4 ⟨rfl,hk⟩;refine ⟨_,rfl,?_⟩;go_simp;go_step
   have HK:=jX (HkW.out.bz.trans (Below.mono hk HkW.out.size));clear hk HC HL;have e1:errF true = .int .i64 0:=rfl;have e2:errF false = .int .i64 5:=rfl;cases r
   ·rw [e2]
    iterate 2 (first|(refine gV ?_;go_simp)|(refine gS ?_;go_simp))
    refine fO ?_;go_wp2_with fail;go_ret
    exact ⟨rfl,HK.out⟩
   rw [e1];iterate 2 (first|(refine gV ?_;go_simp)|(refine gS ?_;go_simp))
   refine fO ?_;go_wp2_with fail;go_ret
   exact ⟨rfl,HK.out⟩
  have hd2:¬ ((x.b2.size:Int)+(x.b4.size:Int))≤8:=by omega
  rw [decide_eq_false h9,Bool.false_and];clear h8 h9;unfold RawR.v;obtain⟨a1,a2,a3,a4,b1,b2,b3,b4,n⟩:=x;dsimp only at *;go_enter func51,ntmps51
  go_upto_region 1 with (fail)
  obtain⟨W,ga,hW,ega,Bga,hga,hgW,HkW⟩:=al1h w (.cells #[.bool a1,.string a2,.bool a3,.string a4,.bool b1,.string b2,.bool b3,.string b4,.bool n] 30);rw [← hW];try rw [ega]
  clear hW ega;have pga:=yab Bga.out;go_wp2_with fail;go_ret
  exact ⟨rfl,HkW.out.bz⟩
 have hd:¬ ((x.a2.size:Int)+(x.a4.size:Int))≤8:=by omega
 rw [decide_eq_false h8,Bool.false_and];clear h8;unfold RawR.v;obtain⟨a1,a2,a3,a4,b1,b2,b3,b4,n⟩:=x;dsimp only at *;go_enter func51,ntmps51
 go_upto_region 1 with (fail)
 obtain⟨W,ga,hW,ega,Bga,hga,hgW,HkW⟩:=al1h w (.cells #[.bool a1,.string a2,.bool a3,.string a4,.bool b1,.string b2,.bool b3,.string b4,.bool n] 30);rw [← hW];try rw [ega]
 clear hW ega;have pga:=yab Bga.out;go_wp2_with fail;go_ret
 exact ⟨rfl,HkW.out.bz⟩
end
section
open Classical
open Go.ChangeShapes Go.WideShapes Go.ChangeAt
end
section
open Classical
noncomputable def tAt (l:List K) (i:Nat):K:=l.getD i (kQ 0 (fitq0.mono (by decide)))
theorem yht {l:List K} {k:Nat} (h:k<l.length):tAt l k=l[k]:=by
 unfold tAt;rw [List.getD_eq_getElem?_getD,List.getElem?_eq_getElem h];rfl
noncomputable def hstp (s:Nat→St) (t:Nat→K) (i:Nat):Bool :=
 decide (combK 3 [(⟨⟨t i,false⟩,⟨mvK (s i).g (t i),true⟩⟩:Iv K)] (s i).d=[])&&(decide (i=0) || (decide (mvK (s i).a (mvK (s (i-1)).g (t (i-1)))≤t i)&&decide (t i≤mvK (s i).b (mvK (s (i-1)).g (t (i-1))))))
noncomputable def hall (s:Nat→St) (t:Nat→K) (n:Nat):Bool:=decide (∀ i,i<n→hstp s t i=true)
theorem yhs {s:Nat→St} {t:Nat→K} {n k:Nat} (hk:k<n) (h:hstp s t k=false):hall s t n=false:=decide_eq_false fun hh=>by rw [hh k hk] at h;cases h
theorem yio {s:Nat→St} {t:Nat→K} {n:Nat} (h:∀ i,i<n→hstp s t i=true):hall s t n=true:=decide_eq_true h
theorem holds_one (a b t:K):holds [(⟨⟨a,false⟩,⟨b,true⟩⟩:Iv K)] t=(decide (a≤t)&&decide (t≤b)):=by
 unfold holds;rw [List.any_cons,List.any_nil,Bool.or_false,Bd.le_def,Bd.le_def,Bool.eq_iff_iff];simp only [decide_eq_true_eq,Bool.and_eq_true];grind
theorem one_ls {lo hi:K} (h:lo≤hi) (u:World):∃ u2 g,u.alloc (.cells (iC ⟨⟨lo,false⟩,⟨hi,true⟩⟩) 32)=u2∧u.heap.size=g∧Keep [] u u2∧Ls u2 [(.slice (some ⟨g,0,none⟩) 1 1,[(⟨⟨lo,false⟩,⟨hi,true⟩⟩:Iv K)])]:=by
 have hn:Norm [(⟨⟨lo,false⟩,⟨hi,true⟩⟩:Iv K)]:=by
  refine ⟨?_,trivial⟩;rw [Bd.lt_def];by_cases he:lo=hi
  ·exact .inr ⟨he,rfl,rfl⟩
  exact .inl (by grind)
 obtain⟨u2,g,e1,e2,_,k,hx⟩:=IvR.single (⟨⟨lo,false⟩,⟨hi,true⟩⟩:Iv K) u;exact ⟨u2,g,e1,e2,k,(Ls.nil _).cons hx hn (by simp)⟩
theorem mv_le {k:Nat} {t:K} {a b:Rat} (ht:Sm k t) (hk:k≤90000) (ha:FitQ 24 a) (hb:FitQ 24 b) (h:a≤b):mvK a t≤mvK b t:=by
 rw [K.le_def,yaS ht (by omega) ha,yaS ht (by omega) hb];exact fun hlt=>yfT t.2.1.nn h hlt
theorem mv_ge {k:Nat} {t:K} {a:Rat} (ht:Sm k t) (hk:k≤90000) (ha:FitQ 24 a) (h:0≤a):t≤mvK a t:=by
 rw [K.le_def,yaS ht (by omega) ha];exact fun hlt=>mvQ_le t.2.1.nn h hlt
end
section
open Classical
noncomputable def winI (s:Nat→St) (i:Nat) (x:K):Iv K:=⟨⟨mvK ((s i).g+(s (i+1)).a) x,false⟩,⟨mvK ((s i).g+(s (i+1)).b) x,true⟩⟩
noncomputable def nxt (s:Nat→St) (A:Nat→List (Iv K)) (i:Nat) (x:K):List (Iv K):=combK 2 (A (i+1)) [winI s i x]
noncomputable def hdK:List (Iv K)→K
 | []=>kQ 0 (fitq0.mono (by decide))
 | I :: _=>ybi I
noncomputable def frm (s:Nat→St) (A:Nat→List (Iv K)) (t:K):Nat→K
 | 0=>t
 | i+1=>hdK (nxt s A i (frm s A t i))
def szH:Nat→Nat
 | 0=>64
 | i+1=>8*szH i+146
theorem sz_ge:∀ i,64≤szH i
 | 0=>Nat.le_refl _
 | i+1=>by have:=sz_ge i;show 64≤8*szH i+146;omega
theorem sz_le:∀ i,i≤2→szH i≤6000:=fun i h=>by
 have:i=0∨i=1∨i=2:=by omega
 rcases this with rfl|rfl|rfl<;>decide
theorem sz_le3:∀ i,i≤3→szH i≤50000:=fun i h=>by
 have:i=0∨i=1∨i=2∨i=3:=by omega
 rcases this with rfl|rfl|rfl|rfl<;>decide
section
variable {s:Nat→St} (h:StOk s) (hh:∀ i,Hs (s i)) {A:Nat→List (Iv K)} (hA:∀ i,HI 512 (A i))
include h hh hA
theorem yfQ {a i:Nat} {x:K} (ha:64≤a) (ha2:a≤6000) (hx:Hb a x):∀ I∈nxt s A i x,
  (∀ w,Calls prog 23 #[iv I] w fun e w'=>e = .returned (kv (ybi I))∧Bl w w')∧Hb (8*a+146) (ybi I)∧(I.f.pt<I.l.pt→I.f.pt<ybi I∧ybi I<I.l.pt):=fun I hI=>by
 have hs:=hx.sm;obtain⟨m,l,m0,l0,hm,hl,hx⟩:=hx;have h2:2 ^ (a+1)=2 ^ a*2:=Nat.pow_succ ..;have h512:512≤2 ^ a:=Nat.le_trans (show 512≤2 ^ 9 by decide) (Nat.pow_le_pow_right (by decide) (by omega))
 have hw:∀ q c,Hq c q→c≤512→FitQ 24 q→Ht ((m*2:Nat):Rat) (l:Rat) ((2 ^ (a+1):Nat):Rat) (mvK q x).1:=fun q c hq hc hf=>by
  rw [yaS hs (by omega) hf];exact (hx.mv hq).bd (by omega)
 have hP:=yfj (P:=fun y:K=>Ht ((m*2:Nat):Rat) (l:Rat) ((2 ^ (a+1):Nat):Rat) y.1) (op:=2) (a:=A (i+1)) (b:=[winI s i x])
  (fun j hj=>by
   have:=hA (i+1) j hj
   exact ⟨(ht_comm (this.1.scale m l) (Nat.mul_comm 2 m) (Nat.one_mul l)).bd (by omega),(ht_comm (this.2.scale m l) (Nat.mul_comm 2 m) (Nat.one_mul l)).bd (by omega)⟩)
  (fun j hj=>by
   rw [List.mem_singleton] at hj;subst hj
   exact ⟨hw _ _ ((hh i).g.add (hh (i+1)).a) (by decide) (ydc (h.g i) (h.a (i+1))),hw _ _ ((hh i).g.add (hh (i+1)).b) (by decide) (ydc (h.g i) (h.b (i+1)))⟩) I hI
 exact pick_core a ha2 (m*2) l (by omega) l0 (by omega) hl I hP.1 hP.2
theorem yhk {t:K} (ht:Hb 64 t):∀ i,i≤3→Hb (szH i) (frm s A t i)
 | 0,_=>ht
 | i+1,hi=>by
  have hx:=yhk ht i (by omega);show Hb (8*szH i+146) (hdK (nxt s A i (frm s A t i)))
  cases e:nxt s A i (frm s A t i) with
  | nil=>exact rat_hb (fitq0.mono (by decide)) (Nat.pow_pos (by decide)) (Nat.zero_le _)
  | cons I l=>exact (yfQ h hh hA (sz_ge i) (sz_le i (by omega)) hx I (by rw [e];exact List.mem_cons_self ..)).2.1
end
theorem ycA (a b:List (Iv K)) (t:K):holds (combK 2 a b) t=(holds a t&&holds b t):=by
 rw [ybs,ybs,ybs,ybY];rfl
theorem ygx {l:List (Iv K)} {I:Iv K} {p:K} (hI:I∈l) (h:I.f≤⟨p,false⟩∧(⟨p,true⟩:Bd K)≤I.l):holds l p=true:=by
 unfold holds;rw [List.any_eq_true];exact ⟨I,hI,decide_eq_true h⟩
theorem rch_ero {s:Nat→St} {i:Nat} {x:K} (hx:holds (rchS s i) x=true):holds (eroK (s i).g (s i).d) x=true:=by
 cases i with
 | zero=>exact hx
 | succ i =>
  unfold rchS at hx;rw [ycA,Bool.and_eq_true] at hx;exact hx.1
section
variable {s:Nat→St} (h:StOk s) {n:Nat} (hn:n≤4)
include h hn
theorem yiC {i:Nat} (hi:i+1<n):livAt s n i=combK 2 (rchS s i) (swpK (-((s (i+1)).b+(s i).g)) (-((s (i+1)).a+(s i).g)) (livAt s n (i+1))):=by
 unfold livAt;rw [show n-1-i=(n-1-(i+1))+1 by omega]
 show combK 2 _ _=_
 rw [show n-2-(n-1-(i+1))=i by omega]
theorem yir {i:Nat} (hi:i+1=n):livAt s n i=rchS s i:=by
 unfold livAt;rw [show n-1-i=0 by omega]
 show rchS s (n-1)=_
 rw [show n-1=i by omega]
theorem livAt_sm (i:Nat):∀ x∈livAt s n i,SmI 353 x:=fun x hx=>(yiA h hn (n-1-i) (by omega) x hx).mono (by omega)
theorem yjm (i:Nat):Norm (livAt s n i):=yet _
theorem yfV {k i:Nat} (hi:i+1<n) {x:K} (hk:k≤60000) (hx:Sm k x) (hab:(s (i+1)).a≤(s (i+1)).b):holds (livAt s n i) x=(holds (rchS s i) x&&decide (nxt s (livAt s n) i x≠[])):=by
 rw [yiC h hn hi,ycA];congr 1
 rw [swp_law (k:=k+353) (by omega) (ydc (h.b (i+1)) (h.g i)).neg (ydc (h.a (i+1)) (h.g i)).neg (by grind) (yjm h hn (i+1)) (fun y hy=>(livAt_sm h hn (i+1) y hy).mono (by omega)) (hx.mono (by omega)),Rat.neg_neg,Rat.neg_neg];unfold nxt winI;rw [Rat.add_comm (s i).g,Rat.add_comm (s i).g]
theorem liv_rch {i:Nat} (hi:i<n) {x:K} (hx:holds (livAt s n i) x=true):holds (rchS s i) x=true:=by
 by_cases h1:i+1<n
 ·rw [yiC h hn h1,ycA,Bool.and_eq_true] at hx
  exact hx.1
 rwa [yir h hn (by omega)] at hx
theorem liv_cov {k i:Nat} (hi:i<n) {x:K} (hk:k≤60000) (hx:Sm k x) (h0:0≤(s i).g) (hl:holds (livAt s n i) x=true):combK 3 [(⟨⟨x,false⟩,⟨mvK (s i).g x,true⟩⟩:Iv K)] (s i).d=[]:=by
 have:=rch_ero (liv_rch h hn hi hl);rw [ero_law (k:=k+28) (by omega) (ybI (h.g i)) h0 (h.norm i) (fun y hy=>(h.sm i y hy).mono (by omega)) (hx.mono (by omega)),decide_eq_true_iff] at this;exact this
theorem yhu (hh:∀ i,Hs (s i)) (hp:∀ i,0≤(s i).g∧(s i).a≤(s i).b) {t:K} (ht:Hb 64 t) (hl:holds (livAt s n 0) t=true) :
  ∀ i,i<n→holds (livAt s n i) (frm s (livAt s n) t i)=true∧(i+1<n→nxt s (livAt s n) i (frm s (livAt s n) t i)≠[])∧hstp s (frm s (livAt s n) t) i=true
 | 0,hi=>by
  refine ⟨hl,fun h1=>?_,?_⟩
  ·rw [yfV h hn h1 (by decide) ht.sm (hp 1).2,Bool.and_eq_true,decide_eq_true_iff] at hl
   exact hl.2
  unfold hstp;rw [show frm s (livAt s n) t 0=t from rfl,decide_eq_true (liv_cov h hn hi (by decide) ht.sm (hp 0).1 hl),decide_eq_true (rfl:(0:Nat)=0)]
  rfl
 | i+1,hi=>by
  obtain⟨_,h2,_⟩:=yhu hh hp ht hl i (by omega);have hne:=h2 hi;have hA:=fun i=>yex h hh hn i;have hb:=yhk h hh hA ht i (by omega);have hb1:=yhk h hh hA ht (i+1) (by omega);have hz1:=sz_le3 (i+1) (by omega);have hz:=sz_le i (by omega);obtain⟨x,hx⟩:∃ x,frm s (livAt s n) t i=x:=⟨_,rfl⟩;rw [hx] at hb hne
  obtain⟨I,l,e⟩:∃ I l,nxt s (livAt s n) i x=I :: l:=by
   cases e:nxt s (livAt s n) i x with
   | nil=>exact absurd e hne
   | cons I l=>exact ⟨I,l,rfl⟩
  have hI:I∈nxt s (livAt s n) i x:=by rw [e];exact List.mem_cons_self ..
  obtain⟨_,_,hin⟩:=yfQ h hh hA (sz_ge i) hz hb I hI;have hv:I.f<I.l:=(yau 2 _ _).val I hI
  have ep:frm s (livAt s n) t (i+1)=ybi I:=by
   show hdK (nxt s (livAt s n) i (frm s (livAt s n) t i))=_
   rw [hx,e];rfl
  have hp1:=ygx hI (yhi hv hin);rw [← ep] at hp1;unfold nxt at hp1;rw [ycA,Bool.and_eq_true] at hp1;refine ⟨hp1.1,fun h1=>?_,?_⟩
  ·have:=hp1.1
   rw [yfV h hn h1 (by omega) hb1.sm (hp (i+1+1)).2,Bool.and_eq_true,decide_eq_true_iff] at this;exact this.2
  have h3:=hp1.2;unfold winI at h3;rw [holds_one] at h3;unfold hstp
  rw [decide_eq_true (liv_cov h hn hi (by omega) hb1.sm (hp (i+1)).1 hp1.1),Bool.true_and,show i+1-1=i by omega,hx,
   mvK_add hb.sm (by omega) (ybI (h.g i)) (ybI (h.a (i+1))) (ydc (h.g i) (h.a (i+1))),mvK_add hb.sm (by omega) (ybI (h.g i)) (ybI (h.b (i+1))) (ydc (h.g i) (h.b (i+1))),h3,Bool.or_true]
theorem frm_no {k:Nat} (hk:k≤60000) (h1:0<n) (hp:∀ i,0≤(s i).g∧(s i).a≤(s i).b) {t:K} (ht:Sm k t) (hl:holds (livAt s n 0) t=false) (hc:combK 3 [(⟨⟨t,false⟩,⟨mvK (s 0).g t,true⟩⟩:Iv K)] (s 0).d=[]) :
  1<n∧nxt s (livAt s n) 0 t=[]:=by
 have he:holds (rchS s 0) t=true:=by
  show holds (eroK (s 0).g (s 0).d) t=true
  rw [ero_law (k:=k+28) (by omega) (ybI (h.g 0)) (hp 0).1 (h.norm 0) (fun y hy=>(h.sm 0 y hy).mono (by omega)) (ht.mono (by omega)),decide_eq_true_iff];exact hc
 have hn1:1<n:=by
  refine Nat.lt_of_not_le fun hle=>?_;rw [yir h hn (by omega),he] at hl;cases hl
 refine ⟨hn1,?_⟩;rw [yfV h hn hn1 hk ht (hp 1).2,he,Bool.true_and,decide_eq_false_iff_not] at hl;exact Classical.not_not.1 hl
end
end
section
open Classical
theorem al_rlN (ev:Operand→Value) (w:World) (o:Oper) (ho:o.op = .alloc 30):(execOp ev o).run prog w = .ok (.value (.pointer (some ⟨w.heap.size,0,none⟩))) (w.alloc (.cells #[.bool false,.string ⟨#[]⟩,.bool false,.string ⟨#[]⟩,.bool false,.string ⟨#[]⟩,.bool false,.string ⟨#[]⟩,.bool false] 30)):=by
 unfold execOp;simp only [ho];go_simp
theorem cmp_lt0 (x y:K):(cmpQ x.1 y.1<0)↔x<y:=by
 rcases K.tri x y with ⟨h,k⟩|⟨h,k⟩|⟨h,k⟩<;>rw [h]<;>constructor<;>intro q<;>first|decide|grind
theorem cmp_gt0 (x y:K):(0<cmpQ x.1 y.1)↔y<x:=by
 rcases K.tri x y with ⟨h,k⟩|⟨h,k⟩|⟨h,k⟩<;>rw [h]<;>constructor<;>intro q<;>first|decide|grind
theorem rholds_c (svs:List StV) (ts:List K) (hg:Good (stS svs)) (h1:0<svs.length) (h4:svs.length≤4) (hl:ts.length=svs.length) (k0:Nat) (hk0:k0≤60000) (hsm:∀ x∈ts,Sm k0 x) (w:World) (sv tv:Value) (hr:StR w sv svs) (ht:KR w tv ts) :
  Calls prog 64 #[sv,tv] w (BPost w (hall (sAt (stS svs)) (tAt ts) svs.length)):=by
 obtain⟨xa,xc,rfl⟩:=hr.form;obtain⟨ta,tc,rfl,_⟩:=ht.form;rw [hl] at ht ⊢;have HR:=jX hr;have HT:=jX ht;have HG:=jX hg;have HS:=jX hsm;have HK:=jX hk0;have Hl:=jX hl;have HSt:=jX (StsOk.at _ hg.ok);clear hr ht hg hsm hl hk0;have HE:=jX (rfl:BPost w (hall (sAt (stS svs)) (tAt ts) svs.length)=BPost w (hall (sAt (stS svs)) (tAt ts) svs.length));go_enter func64,ntmps64
 go_wp2_with fail;go_loopw [5] (fun c wr=>∃ k:Nat,k≤svs.length∧c = .int .i64 (k:Int)∧Below w.heap.size w wr∧∀ i,i<k→hstp (sAt (stS svs)) (tAt ts) i=true) (fun c _=>svs.length-(intOf c).toNat)
 case atStart=>exact ⟨0,Nat.zero_le _,rfl,Below.refl _ _,fun i h=>absurd h (by omega)⟩
 case round =>
  obtain⟨k,hk,rfl,hb,hF⟩:=hrel;have HX:=jX hb;have HF:=jX hF;clear hb hF;by_cases hlt:k<svs.length
  ·have hkt:k<ts.length:=by rw [Hl.out];exact hlt
   obtain⟨g,o,rfl,hg,hat⟩:=StR.elem (HR.out.grow HX.out) k hlt;obtain⟨gt,ot,rfl,hgt,hatt⟩:=KR.elem (HT.out.laterB HX.out) k hkt;have hx:svs[k]∈svs:=List.getElem_mem hlt;have hsk:=ybZ hlt;have htk:=yht hkt;have Hlx:=jX ((HR.out.grow HX.out).ls hx);have hsmt:=HS.out _ (List.getElem_mem hkt);have hgx:FitQ 24 svs[k].s.g:=by rw [← hsk];exact ybI (HSt.out.g k)
   have hga:FitQ 24 svs[k].s.a:=by rw [← hsk];exact ybI (HSt.out.a k)
   have hgb:FitQ 24 svs[k].s.b:=by rw [← hsk];exact ybI (HSt.out.b k)
   have hpos:=HG.out.pos _ (List.mem_map_of_mem hx);have hpos1:0≤svs[k].s.g:=hpos.1;have hkc:(k:Int)<(svs.length:Int):=by omega
   have Hst:Hid (hstp (sAt (stS svs)) (tAt ts) k=(decide (combK 3 [(⟨⟨ts[k],false⟩,⟨mvK svs[k].s.g ts[k],true⟩⟩:Iv K)] svs[k].s.d=[])&&(decide (k=0) || (decide (mvK svs[k].s.a (mvK (sAt (stS svs) (k-1)).g (tAt ts (k-1)))≤ts[k])&&decide (ts[k]≤mvK svs[k].s.b (mvK (sAt (stS svs) (k-1)).g (tAt ts (k-1)))))))):=jX (by
    unfold hstp
    rw [hsk,htk])
   generalize svs[k]=x at *;generalize ts[k]=t at *;obtain⟨p,hp⟩:∃ p,o+k*13=p:=⟨_,rfl⟩;obtain⟨q,hq⟩:∃ q,ot+k*9=q:=⟨_,rfl⟩;rw [hp] at hat;rw [hq] at hatt;have Hat:=jX hat;have HPd:Hid (∀ u:World,u.heap[g]? = wr.heap[g]? → u.cell? ⟨g,p,none⟩=some (.slice x.a x.s.d.length x.c)):=jX fun u h=>(hat.keep h).d0;have HLt:=jX (fun (u:World) (h:u.heap[gt]? = wr.heap[gt]?)=>show (loadVar 30 ⟨gt,q,none⟩).run prog u = .ok (.agg (kC t)) u from yax _ _ _ _ (hatt.keep h))
   have H1:=jX (ycC hsmt (by have:=HK.out;omega) hgx);have HLi:=jX (fun u=>one_ls (mv_ge hsmt (by have:=HK.out;omega) hgx hpos1) u);have HBd:=jX (yeJ t (mvK x.s.g t));rw [show kv t = .agg (kC t) from rfl,show kv (mvK x.s.g t) = .agg (kC (mvK x.s.g t)) from rfl] at HBd
   have HCv:=jX (fun u v y (h:Ls u [(v,x.s.d),(y,[(⟨⟨t,false⟩,⟨mvK x.s.g t,true⟩⟩:Iv K)])])=>h.cov (List.mem_cons_self ..) (List.mem_cons_of_mem _ (List.mem_cons_self ..)));have Hfa:=jX hga;have Hfb:=jX hgb;obtain⟨cv,hcv⟩:∃ cv,decide (combK 3 [(⟨⟨t,false⟩,⟨mvK x.s.g t,true⟩⟩:Iv K)] x.s.d=[])=cv:=⟨_,rfl⟩;rw [hcv] at HCv Hst;clear hcv hx hsk htk hsmt hgx hga hgb hpos hpos1 hat;obtain⟨I,hI⟩:∃ I:Iv K,(⟨⟨t,false⟩,⟨mvK x.s.g t,true⟩⟩:Iv K)=I:=⟨_,rfl⟩;rw [hI] at HBd HLi HCv;clear hI;have HSz:Hid ((kC (mvK x.s.g t)).size=9∧(kC (mvK x.s.g t)).all (·.oneCell')=true):=jX ⟨(ybg _).2.1,(ybg _).2.2⟩;have HLh:=jX (fun (u:World) (h:Nat) (hh:u.heap[h]? = some (.cells (kC (mvK x.s.g t)) 30))=>show (loadVar 30 ⟨h,0,none⟩).run prog u = .ok (.agg (kC (mvK x.s.g t))) u from yax _ _ _ _ (yeZ hh))
   generalize kC (mvK x.s.g t)=TH at *;obtain⟨T,hT⟩:∃ T,kC t=T:=⟨_,rfl⟩;rw [hT] at HLt H1 HBd;have HTt:=jX hT;clear hT;have hxv:x.v = .slice x.a x.s.d.length x.c:=rfl;rw [hxv] at Hlx;clear hxv;go_upto_region 4 with (fail)
   refine yaF 11 [(6,30)] (fun _=>.cells #[.bool false,.string ⟨#[]⟩,.bool false,.string ⟨#[]⟩,.bool false,.string ⟨#[]⟩,.bool false,.string ⟨#[]⟩,.bool false] 30) (by kernel_rfl) (by kernel_rfl) (by kernel_rfl) (fun t ht ev w o ho=>by simp at ht;subst ht;exact al_rlN ev w o ho) ?_;intro U hU;have L1:∀ m:KW U,(loadVar 30 ⟨gt,q,none⟩).run prog (Wk U m) = .ok (.agg T) (Wk U m):=fun m=>HLt.out _ ((m.k.block gt (Nat.lt_of_lt_of_le hgt hU.size) (by simp)).trans (hU.block gt hgt (by simp)));have L2:∀ m:KW U,(loadVar 28 ⟨g,p+1,none⟩).run prog (Wk U m) = .ok (.agg (rC x.s.g)) (Wk U m):=fun m=>(Hat.out.keep ((m.k.block g (Nat.lt_of_lt_of_le hg hU.size) (by simp)).trans (hU.block g hg (by simp)))).lg;have Q1:Hid (∀ m:KW U,Calls prog 54 #[.agg T,.agg (rC x.s.g)] (Wk U m) fun e w'=>e = .returned (.agg TH)∧∃ m,w'=Wk U m):=fun m=>qk m (H1.out _);simp only [List.map_cons,List.map_nil,unal,isAl,if_true,if_false,Bool.false_eq_true,List.take_succ_cons,List.take_zero]
   repeat (first
    | go_big_quiet_skip
    | (go_big_quiet_want;first
     | (refine yaj _ _ _ (.agg T) rfl rfl (by rintro _ ⟨m,rfl⟩;exact L1 m) ?_;go_simp;go_big_quiet_on)|(refine yaj _ _ _ (.agg (rC x.s.g)) rfl rfl (by rintro _ ⟨m,rfl⟩;exact L2 m) ?_;go_simp;go_big_quiet_on)
     | (go_big_quiet_op;first|go_big_quiet_on|go_big_quiet_call (first
      | (go_at_call 54;with_reducible exact (Q1).out _)))))
   refine wpQuiet_nil ?_;intro P hp1 hp2 w4a hk9 hz;have bg1:=hz (6,30) (by simp);have hg1:=hp1 6 (by simp);simp only [List.map_cons,List.map_nil,pl,List.drop_succ_cons,List.drop_zero];dsimp only at bg1;generalize P 6=gh at *;clear hz hp1 hp2 hU L1 L2 Q1 U P;refine wR gh TH bg1 (by rw [HSz.out.1];exact k_size) (by rw [HSz.out.1];rfl) HSz.out.2 (fun w4 ba ka=>?_);go_simp;refine fO ?_;have hkk:=(show Keep [] wr w4 from hk9.trans ka (by simp;exact hg1)).bz
   have HX:=jX (HX.out.trans (Below.mono hkk HX.out.size));have Bgh:=jX ba;have Hlx:=jX (Hlx.out.grow hkk);have Ht4:=jX (hkk.block gt hgt);have hgt4:gt<w4.heap.size:=Nat.lt_of_lt_of_le hgt hkk.size;have Hg4:=jX (hkk.block g hg);have hg4:g<w4.heap.size:=Nat.lt_of_lt_of_le hg hkk.size;clear hk9 ka ba bg1 hkk hg1 H1;go_upto_region 5 with (fail)
   have hgh4:=yaa Bgh.out;refine yae (S:=fun u=>Below w4.heap.size w4 u) 13 (by kernel_rfl) (by kernel_rfl) (fun _ _ d _ _ h=>by cases d<;>exact h) ?_;have hS0:=(Keep.drew [] w4).bz;generalize World.drew w4=u at *;refine tV 0 hS0 ?_;go_simp;refine tV 1 hS0 ?_;go_simp;refine tV 2 hS0 ?_;go_simp;refine tV 3 hS0 ?_;go_simp;refine' jG (v:=_) 4 hS0 (fun w hw=>?hha4) (fun K hK=>?kha4)
   case hha4=>(have pd:=HPd.out _ ((hw.block g hg4).trans Hg4.out);go_simp;try rfl)
   go_simp;go_step
   refine tV 5 hS0 ?_;go_simp;refine tV 6 hS0 ?_;go_simp;refine tV 7 hS0 ?_;go_simp;refine jG (v:=.agg T) 8 hS0 (fun w hw=>yan _ _ ⟨gt,q,none⟩ _ rfl rfl (HLt.out _ ((hw.block gt hgt4).trans Ht4.out))) (fun K hK=>?_);go_simp;go_step
   refine jG (v:=.agg TH) 9 hS0 (fun w hw=>yan _ _ ⟨gh,0,none⟩ _ rfl rfl (HLh.out _ _ ((hw.block gh hgh4).trans Bgh.out))) (fun K hK=>?_);go_simp;go_step
   refine yaI (v:=iv I) 10 (by rfl) (by decide) (by kernel_rfl) (by kernel_rfl) (by rfl) hS0 (fun w hw=>yaC 32 #[(0,.tmp 32),(1,.tmp 33)] #[(0,.agg T),(1,.agg TH)] (iC I) rfl (by simp only [List.map_toArray,List.map_cons,List.map_nil];rfl) HBd.out) (fun K hK=>?_);go_simp;go_step
   refine jP 11 (fun K hK=>?_);refine ybK (.slice (some ⟨u.heap.size,0,none⟩) 1 1) (u.alloc (.cells (iC I) 32)) (yaV 22 1 #[(0,.tmp 34)] #[(0,iv I)] _ rfl (by simp only [List.map_toArray,List.map_cons,List.map_nil];rfl) (ybl _ _)) ?_;obtain⟨u3,gl,e3,e4,k3,hl3⟩:=HLi.out u;rw [e3,e4];have hS0:=hS0.trans (Below.mono k3.bz hS0.size);have Hl3:=jX hl3;clear e3 e4 k3 hl3;go_simp;refine hK _ _ hS0 ?_;clear hK K;refine uR 12 50 #[.slice x.a x.s.d.length x.c,.slice (some ⟨gl,0,none⟩) 1 1] hS0 (HCv.out _ _ _ ((Hlx.out.grow hS0).one Hl3.out)) (fun w5 hS0 hb=>?_);go_simp;refine ⟨by kernel_rfl,?_⟩;simp only [List.drop_succ_cons,List.drop_zero];have HX:=jX (HX.out.trans (Below.mono hS0 HX.out.size));have Ht5:=jX ((hS0.block gt hgt4).trans Ht4.out);have hgt5:gt<w5.heap.size:=Nat.lt_of_lt_of_le hgt4 hS0.size;have Hg5:=jX ((hS0.block g hg4).trans Hg4.out);have hg5:g<w5.heap.size:=Nat.lt_of_lt_of_le hg4 hS0.size;clear hS0 hb HLi HBd Ht4 hgt4 Hg4 hg4 HCv Hlx Hl3 HLh HSz Bgh hgh4;cases cv with
   | false =>
    rw [Bool.false_and] at Hst;have Hno:=jX (yhs hlt Hst.out);go_wp2_with fail;go_ret
    exact ⟨by rw [Hno.out];rfl,HX.out⟩
   | true =>
    rw [Bool.true_and] at Hst;by_cases hk0:k=0
    ·rw [decide_eq_true hk0,Bool.true_or] at Hst
     have hkb:((k:Int) == 0)=true:=by rw [beq_iff_eq];omega
     go_wp2_with fail;go_roundw
     case rel=>exact ⟨k+1,by omega,congrArg (Value.int .i64) (by omega),HX.out,fun i hi=>by
      by_cases h:i<k
      ·exact HF.out i h
      rw [show i=k by omega];exact Hst.out⟩
     case measure=>simp [intOf];omega
    rw [decide_eq_false hk0,Bool.false_or] at Hst;have hkb:((k:Int) == 0)=false:=by rw [beq_eq_false_iff_ne];omega
    obtain⟨j,hj⟩:∃ j,k=j+1:=⟨k-1,by omega⟩;have hjl:j<svs.length:=by omega
    have hjt:j<ts.length:=by rw [Hl.out];omega
    have hsub:IntKind.i64.wrap ((k:Int)-1)=(j:Int):=by rw [show (k:Int)-1=(j:Int) by omega];exact IntWalk.i64_in _ (by omega)
    have hj1:(j:Int)<(svs.length:Int):=by omega
    have hj0:(0:Int)≤(j:Int):=by omega
    rw [show k-1=j by omega,ybZ hjl,yht hjt] at Hst
    have Hj:=jX hj;clear hj;obtain⟨g',o',hge,hgq,hatj⟩:=StR.elem (HR.out.grow HX.out) j hjl;obtain⟨rfl,rfl⟩:g'=g∧o'=o:=by injection hge with hge;injection hge with h1 h2;exact ⟨h1.symm,h2.symm⟩
    obtain⟨gt',ot',hgte,_,hattj⟩:=KR.elem (HT.out.laterB HX.out) j hjt;obtain⟨rfl,rfl⟩:gt'=gt∧ot'=ot:=by injection hgte with hge;injection hge with h1 h2;exact ⟨h1.symm,h2.symm⟩
    have hsj:=ybZ hjl;have hgj:FitQ 24 svs[j].s.g:=by rw [← hsj];exact ybI (HSt.out.g j)
    have hsmj:=HS.out _ (List.getElem_mem hjt);generalize svs[j]=y at *;generalize ts[j]=tj at *;obtain⟨pj,hpj⟩:∃ pj,o'+j*13=pj:=⟨_,rfl⟩;obtain⟨qj,hqj⟩:∃ qj,ot'+j*9=qj:=⟨_,rfl⟩;rw [hpj] at hatj;rw [hqj] at hattj;have Hatj:=jX hatj;have HLj:=jX (fun (u:World) (h:u.heap[gt']? = w5.heap[gt']?)=>show (loadVar 30 ⟨gt',qj,none⟩).run prog u = .ok (.agg (kC tj)) u from yax _ _ _ _ (hattj.keep h))
    have H1:=jX (ycC hsmj (by have:=HK.out;omega) hgj);have hsb:Sm (k0+25) (mvK y.s.g tj):=ycG hsmj (by have:=HK.out;omega) hgj;have H2:=jX (ycC hsb (by have:=HK.out;omega) Hfa.out);have H3:=jX (ycC hsb (by have:=HK.out;omega) Hfb.out);have H4:=jX (yfR t (mvK x.s.a (mvK y.s.g tj)));have H5:=jX (yfR t (mvK x.s.b (mvK y.s.g tj)));have HSz:Hid ((kC (mvK y.s.g tj)).size=9∧(kC (mvK y.s.g tj)).all (·.oneCell')=true):=jX ⟨(ybg _).2.1,(ybg _).2.2⟩;have HLh:=jX (fun (u:World) (h:Nat) (hh:u.heap[h]? = some (.cells (kC (mvK y.s.g tj)) 30))=>show (loadVar 30 ⟨h,0,none⟩).run prog u = .ok (.agg (kC (mvK y.s.g tj))) u from yax _ _ _ _ (yeZ hh))
    have c1:=cmp_lt0 t (mvK x.s.a (mvK y.s.g tj));have c2:=cmp_gt0 t (mvK x.s.b (mvK y.s.g tj));rw [show kv t = .agg (kC t) from rfl,HTt.out] at H4 H5
    rw [show kv (mvK x.s.a (mvK y.s.g tj)) = .agg (kC (mvK x.s.a (mvK y.s.g tj))) from rfl] at H4
    rw [show kv (mvK x.s.b (mvK y.s.g tj)) = .agg (kC (mvK x.s.b (mvK y.s.g tj))) from rfl] at H5
    clear hatj hattj hge hgte hsj hgj hsmj hsb;generalize mvK y.s.g tj=bf at *;generalize mvK x.s.a bf=lo at *;generalize mvK x.s.b bf=hi at *;generalize kC tj=TJ at *;generalize kC bf=BF at *;generalize kC lo=LO at *;generalize kC hi=HI at *
    have C1:Hid (decide (lo≤t) = !decide (cmpQ t.1 lo.1<0)):=jX (by
     rw [Bool.eq_iff_iff,decide_eq_true_iff,Bool.not_eq_true',decide_eq_false_iff_not,c1]
     grind)
    have C2:Hid (decide (t≤hi) = !decide (0<cmpQ t.1 hi.1)):=jX (by
     rw [Bool.eq_iff_iff,decide_eq_true_iff,Bool.not_eq_true',decide_eq_false_iff_not,c2]
     grind)
    rw [C1.out,C2.out] at Hst;clear C1 C2 c1 c2;generalize cmpQ t.1 lo.1=n1 at *;generalize cmpQ t.1 hi.1=n2 at *;go_upto_region 8 with (fail)
    refine yaF 13 [(7,30)] (fun _=>.cells #[.bool false,.string ⟨#[]⟩,.bool false,.string ⟨#[]⟩,.bool false,.string ⟨#[]⟩,.bool false,.string ⟨#[]⟩,.bool false] 30) (by kernel_rfl) (by kernel_rfl) (by kernel_rfl) (fun t ht ev w o ho=>by simp at ht;subst ht;exact al_rlN ev w o ho) ?_;intro U hU;have L1:∀ m:KW U,(loadVar 30 ⟨gt',qj,none⟩).run prog (Wk U m) = .ok (.agg TJ) (Wk U m):=fun m=>HLj.out _ ((m.k.block gt' (Nat.lt_of_lt_of_le hgt5 hU.size) (by simp)).trans (hU.block gt' hgt5 (by simp)));have L2:∀ m:KW U,(loadVar 28 ⟨g',pj+1,none⟩).run prog (Wk U m) = .ok (.agg (rC y.s.g)) (Wk U m):=fun m=>(Hatj.out.keep ((m.k.block g' (Nat.lt_of_lt_of_le hgq hU.size) (by simp)).trans (hU.block g' hgq (by simp)))).lg;have Q1:Hid (∀ m:KW U,Calls prog 54 #[.agg TJ,.agg (rC y.s.g)] (Wk U m) fun e w'=>e = .returned (.agg BF)∧∃ m,w'=Wk U m):=fun m=>qk m (H1.out _);simp only [List.map_cons,List.map_nil,unal,isAl,if_true,if_false,Bool.false_eq_true,List.take_succ_cons,List.take_zero]
    repeat (first
     | go_big_quiet_skip
     | (go_big_quiet_want;first
      | (refine yaj _ _ _ (.agg TJ) rfl rfl (by rintro _ ⟨m,rfl⟩;exact L1 m) ?_;go_simp;go_big_quiet_on)|(refine yaj _ _ _ (.agg (rC y.s.g)) rfl rfl (by rintro _ ⟨m,rfl⟩;exact L2 m) ?_;go_simp;go_big_quiet_on)
      | (go_big_quiet_op;first|go_big_quiet_on|go_big_quiet_call (first
       | (go_at_call 54;with_reducible exact (Q1).out _)))))
    refine wpQuiet_nil ?_;intro P hp1 hp2 w7a hk9 hz;have bg1:=hz (7,30) (by simp);have hg1:=hp1 7 (by simp);simp only [List.map_cons,List.map_nil,pl,List.drop_succ_cons,List.drop_zero];dsimp only at bg1;generalize P 7=gf at *;clear hz hp1 hp2 hU L1 L2 Q1 U P;refine wR gf BF bg1 (by rw [HSz.out.1];exact k_size) (by rw [HSz.out.1];rfl) HSz.out.2 (fun w8 ba ka=>?_);go_simp;refine fO ?_;have hkk:=(show Keep [] w5 w8 from hk9.trans ka (by simp;exact hg1)).bz
    have HX:=jX (HX.out.trans (Below.mono hkk HX.out.size));have Bgf:=jX ba;have Ht8:=jX ((hkk.block gt' hgt5).trans Ht5.out);have hgt8:gt'<w8.heap.size:=Nat.lt_of_lt_of_le hgt5 hkk.size;have Hg8:=jX ((hkk.block g' hg5).trans Hg5.out);have hg8:g'<w8.heap.size:=Nat.lt_of_lt_of_le hg5 hkk.size;have hgf8:=yaa Bgf.out;clear hk9 ka ba bg1 hkk hg1 H1 HLj Hatj HSz Ht5 Hg5 hgt5 hg5 hgq;by_cases hn1:n1<0
    ·have Hno:=jX (yhs hlt (by rw [Hst.out,decide_eq_true hn1];rfl))
     go_upto_region 9 with (fail)
     refine yae (S:=fun u=>Below w8.heap.size w8 u) 27 (by kernel_rfl) (by kernel_rfl) (fun _ _ d _ _ h=>by cases d<;>exact h) ?_;have hS0:=(Keep.drew [] w8).bz;generalize World.drew w8=u9 at *;refine tV 0 hS0 ?_;go_simp;refine tV 1 hS0 ?_;go_simp;refine tV 2 hS0 ?_;go_simp;refine jG (v:=.agg T) 3 hS0 (fun w hw=>yan _ _ ⟨gt',q,none⟩ _ rfl rfl (HLt.out _ ((hw.block gt' hgt8).trans Ht8.out))) (fun K hK=>?_);go_simp;go_step
     refine jG (v:=.agg BF) 4 hS0 (fun w hw=>yan _ _ ⟨gf,0,none⟩ _ rfl rfl (HLh.out _ _ ((hw.block gf hgf8).trans Bgf.out))) (fun K hK=>?_);go_simp;go_step
     refine tV 5 hS0 ?_;go_simp;refine tV 6 hS0 ?_;go_simp;refine tV 7 hS0 ?_;go_simp;refine tV 8 hS0 ?_;go_simp;refine jG (v:=.agg (rC x.s.a)) 9 hS0 (fun w hw=>yan _ _ ⟨g',p+5,none⟩ _ rfl rfl ((Hat.out.keep ((hw.block g' hg8).trans Hg8.out)).la)) (fun K hK=>?_);go_simp;go_step
     refine uQ 10 54 #[.agg BF,.agg (rC x.s.a)] hS0 (H2.out _) (fun ua hS0 _=>?_);go_simp;refine uQ 11 81 #[.agg T,.agg LO] hS0 (H4.out _) (fun ub hS0 _=>?_);go_simp;refine tV 12 hS0 ?_;go_simp;refine tV 13 hS0 ?_;go_simp;refine tS 14 hS0 ?_;go_simp;refine tS 15 hS0 ?_;go_simp;refine tS 16 hS0 ?_;go_simp;refine tS 17 hS0 ?_;go_simp;refine tS 18 hS0 ?_;go_simp;refine tS 19 hS0 ?_;go_simp;refine tS 20 hS0 ?_;go_simp;refine tS 21 hS0 ?_;go_simp;refine tS 22 hS0 ?_;go_simp;refine tS 23 hS0 ?_;go_simp;refine tS 24 hS0 ?_;go_simp;refine tS 25 hS0 ?_;go_simp;refine tS 26 hS0 ?_;go_simp;refine ⟨by kernel_rfl,?_⟩;simp only [List.drop_succ_cons,List.drop_zero];have HX:=jX (HX.out.trans (Below.mono hS0 HX.out.size));clear hS0;go_wp2_with fail;go_ret
     exact ⟨by rw [Hno.out];rfl,HX.out⟩
    rw [decide_eq_false hn1,Bool.not_false,Bool.true_and] at Hst;go_upto_region 9 with (fail)
    refine yae (S:=fun u=>Below w8.heap.size w8 u) 27 (by kernel_rfl) (by kernel_rfl) (fun _ _ d _ _ h=>by cases d<;>exact h) ?_;have hS0:=(Keep.drew [] w8).bz;generalize World.drew w8=u9 at *;refine tV 0 hS0 ?_;go_simp;refine tV 1 hS0 ?_;go_simp;refine tV 2 hS0 ?_;go_simp;refine jG (v:=.agg T) 3 hS0 (fun w hw=>yan _ _ ⟨gt',q,none⟩ _ rfl rfl (HLt.out _ ((hw.block gt' hgt8).trans Ht8.out))) (fun K hK=>?_);go_simp;go_step
    refine jG (v:=.agg BF) 4 hS0 (fun w hw=>yan _ _ ⟨gf,0,none⟩ _ rfl rfl (HLh.out _ _ ((hw.block gf hgf8).trans Bgf.out))) (fun K hK=>?_);go_simp;go_step
    refine tV 5 hS0 ?_;go_simp;refine tV 6 hS0 ?_;go_simp;refine tV 7 hS0 ?_;go_simp;refine tV 8 hS0 ?_;go_simp;refine jG (v:=.agg (rC x.s.a)) 9 hS0 (fun w hw=>yan _ _ ⟨g',p+5,none⟩ _ rfl rfl ((Hat.out.keep ((hw.block g' hg8).trans Hg8.out)).la)) (fun K hK=>?_);go_simp;go_step
    refine uQ 10 54 #[.agg BF,.agg (rC x.s.a)] hS0 (H2.out _) (fun ua hS0 _=>?_);go_simp;refine uQ 11 81 #[.agg T,.agg LO] hS0 (H4.out _) (fun ub hS0 _=>?_);go_simp;refine tV 12 hS0 ?_;go_simp;refine tV 13 hS0 ?_;go_simp;refine tV 14 hS0 ?_;go_simp;refine tV 15 hS0 ?_;go_simp;refine tV 16 hS0 ?_;go_simp;refine jG (v:=.agg T) 17 hS0 (fun w hw=>yan _ _ ⟨gt',q,none⟩ _ rfl rfl (HLt.out _ ((hw.block gt' hgt8).trans Ht8.out))) (fun K hK=>?_);go_simp;go_step
    refine jG (v:=.agg BF) 18 hS0 (fun w hw=>yan _ _ ⟨gf,0,none⟩ _ rfl rfl (HLh.out _ _ ((hw.block gf hgf8).trans Bgf.out))) (fun K hK=>?_);go_simp;go_step
    refine tV 19 hS0 ?_;go_simp;refine tV 20 hS0 ?_;go_simp;refine tV 21 hS0 ?_;go_simp;refine tV 22 hS0 ?_;go_simp;refine jG (v:=.agg (rC x.s.b)) 23 hS0 (fun w hw=>yan _ _ ⟨g',p+9,none⟩ _ rfl rfl ((Hat.out.keep ((hw.block g' hg8).trans Hg8.out)).lb)) (fun K hK=>?_);go_simp;go_step
    refine uQ 24 54 #[.agg BF,.agg (rC x.s.b)] hS0 (H3.out _) (fun uc hS0 _=>?_);go_simp;refine uQ 25 81 #[.agg T,.agg HI] hS0 (H5.out _) (fun ud hS0 _=>?_);go_simp;refine fO ?_;by_cases hn2:0<n2
    ·skip
     refine tV 26 hS0 ?_;go_simp;refine ⟨by kernel_rfl,?_⟩;simp only [List.drop_succ_cons,List.drop_zero];have Hno:=jX (yhs hlt (by rw [Hst.out,decide_eq_true hn2];rfl));have HX:=jX (HX.out.trans (Below.mono hS0 HX.out.size));clear hS0;go_wp2_with fail;go_ret
     exact ⟨by rw [Hno.out];rfl,HX.out⟩
    rw [decide_eq_false hn2,Bool.not_false] at Hst;refine tV 26 hS0 ?_;go_simp;refine ⟨by kernel_rfl,?_⟩;simp only [List.drop_succ_cons,List.drop_zero];have HX:=jX (HX.out.trans (Below.mono hS0 HX.out.size));clear hS0;go_wp2_with fail;go_roundw
    case rel=>exact ⟨k+1,by omega,congrArg (Value.int .i64) (by omega),HX.out,fun i hi=>by
     by_cases h:i<k
     ·exact HF.out i h
     rw [show i=k by omega];exact Hst.out⟩
    case measure=>simp [intOf];omega
  have hkn:k=svs.length:=by omega
  have hkc:¬ ((k:Int)<(svs.length:Int)):=by omega
  have Hy:=jX (yio (s:=sAt (stS svs)) (t:=tAt ts) (n:=svs.length) (fun i hi=>HF.out i (by omega)));clear HF hkn;go_wp2_with fail;go_ret
  exact ⟨by rw [Hy.out];rfl,HX.out⟩
end
end Go.Proofs.YtpgffjjpiafhpaaGreatDoor
