/- Parts of a proof: Bp Em En. -/
import Derived.Test.YtpgffjjpiafhpaaGreatDoorS41
import Derived.Test.YtpgffjjpiafhpaaGreatDoorS15
set_option linter.unusedVariables false
set_option linter.unusedSimpArgs false
set_option linter.unusedSectionVars false
set_option maxRecDepth 100000
set_option maxHeartbeats 8000000
namespace Go.Proofs.YtpgffjjpiafhpaaGreatDoor
open Go.RowKit Tryz
section
open Classical
noncomputable def winI (s:Nat→St) (i:Nat) (x:K):Iv K:=⟨⟨mvK ((s i).g+(s (i+1)).a) x,false⟩,⟨mvK ((s i).g+(s (i+1)).b) x,true⟩⟩
noncomputable def nxt (s:Nat→St) (A:Nat→List (Iv K)) (i:Nat) (x:K):List (Iv K):=combK 2 (A (i+1)) [winI s i x]
noncomputable def hdK:List (Iv K)→K
 | []=>kQ 0 (fitq0.mono (by decide))
 | I :: _=>yaT I
noncomputable def frm (s:Nat→St) (A:Nat→List (Iv K)) (t:K):Nat→K
 | 0=>t
 | i+1=>hdK (nxt s A i (frm s A t i))
def szH:Nat→Nat
 | 0=>64
 | i+1=>8*szH i+146
theorem sz_ge:∀ i,64≤szH i
 | 0=>Nat.le_refl _
 | i+1=>by have:=sz_ge i;show 64≤8*szH i+146;omega
theorem sz_le:∀ i,i≤2→szH i≤6000:=fun i h=>by
 have:i=0∨i=1∨i=2:=by omega
 rcases this with rfl|rfl|rfl<;>decide
theorem sz_le3:∀ i,i≤3→szH i≤50000:=fun i h=>by
 have:i=0∨i=1∨i=2∨i=3:=by omega
 rcases this with rfl|rfl|rfl|rfl<;>decide
section
variable {s:Nat→St} (h:StOk s) (hh:∀ i,Hs (s i)) {A:Nat→List (Iv K)} (hA:∀ i,HI 512 (A i))
include h hh hA
theorem yeF {a i:Nat} {x:K} (ha:64≤a) (ha2:a≤6000) (hx:Hb a x):∀ I∈nxt s A i x,
  (∀ w,Calls prog 23 #[iv I] w fun e w'=>e = .returned (kv (yaT I))∧Bl w w')∧Hb (8*a+146) (yaT I)∧(I.f.pt<I.l.pt→I.f.pt<yaT I∧yaT I<I.l.pt):=fun I hI=>by
 have hs:=hx.sm;obtain⟨m,l,m0,l0,hm,hl,hx⟩:=hx;have h2:2 ^ (a+1)=2 ^ a*2:=Nat.pow_succ ..;have h512:512≤2 ^ a:=Nat.le_trans (show 512≤2 ^ 9 by decide) (Nat.pow_le_pow_right (by decide) (by omega))
 have hw:∀ q c,Hq c q→c≤512→FitQ 24 q→Ht ((m*2:Nat):Rat) (l:Rat) ((2 ^ (a+1):Nat):Rat) (mvK q x).1:=fun q c hq hc hf=>by
  rw [yaS hs (by omega) hf];exact (hx.mv hq).bd (by omega)
 have hP:=yeU (P:=fun y:K=>Ht ((m*2:Nat):Rat) (l:Rat) ((2 ^ (a+1):Nat):Rat) y.1) (op:=2) (a:=A (i+1)) (b:=[winI s i x])
  (fun j hj=>by
   have:=hA (i+1) j hj
   exact ⟨(ht_comm (this.1.scale m l) (Nat.mul_comm 2 m) (Nat.one_mul l)).bd (by omega),(ht_comm (this.2.scale m l) (Nat.mul_comm 2 m) (Nat.one_mul l)).bd (by omega)⟩)
  (fun j hj=>by
   rw [List.mem_singleton] at hj;subst hj
   exact ⟨hw _ _ ((hh i).g.add (hh (i+1)).a) (by decide) (ybU (h.g i) (h.a (i+1))),hw _ _ ((hh i).g.add (hh (i+1)).b) (by decide) (ybU (h.g i) (h.b (i+1)))⟩) I hI
 exact pick_core a ha2 (m*2) l (by omega) l0 (by omega) hl I hP.1 hP.2
theorem yfR {t:K} (ht:Hb 64 t):∀ i,i≤3→Hb (szH i) (frm s A t i)
 | 0,_=>ht
 | i+1,hi=>by
  have hx:=yfR ht i (by omega);show Hb (8*szH i+146) (hdK (nxt s A i (frm s A t i)))
  cases e:nxt s A i (frm s A t i) with
  | nil=>exact rat_hb (fitq0.mono (by decide)) (Nat.pow_pos (by decide)) (Nat.zero_le _)
  | cons I l=>exact (yeF h hh hA (sz_ge i) (sz_le i (by omega)) hx I (by rw [e];exact List.mem_cons_self ..)).2.1
end
theorem ycD (a b:List (Iv K)) (t:K):holds (combK 2 a b) t=(holds a t&&holds b t):=by
 rw [ybw,ybw,ybw,ybZ];rfl
theorem ygL {l:List (Iv K)} {I:Iv K} {p:K} (hI:I∈l) (h:I.f≤⟨p,false⟩∧(⟨p,true⟩:Bd K)≤I.l):holds l p=true:=by
 unfold holds;rw [List.any_eq_true];exact ⟨I,hI,decide_eq_true h⟩
theorem rch_ero {s:Nat→St} {i:Nat} {x:K} (hx:holds (rchS s i) x=true):holds (eroK (s i).g (s i).d) x=true:=by
 cases i with
 | zero=>exact hx
 | succ i =>
  unfold rchS at hx;rw [ycD,Bool.and_eq_true] at hx;exact hx.1
section
variable {s:Nat→St} (h:StOk s) {n:Nat} (hn:n≤4)
include h hn
theorem yjd {i:Nat} (hi:i+1<n):livAt s n i=combK 2 (rchS s i) (swpK (-((s (i+1)).b+(s i).g)) (-((s (i+1)).a+(s i).g)) (livAt s n (i+1))):=by
 unfold livAt;rw [show n-1-i=(n-1-(i+1))+1 by omega]
 show combK 2 _ _=_
 rw [show n-2-(n-1-(i+1))=i by omega]
theorem liv_last {i:Nat} (hi:i+1=n):livAt s n i=rchS s i:=by
 unfold livAt;rw [show n-1-i=0 by omega]
 show rchS s (n-1)=_
 rw [show n-1=i by omega]
theorem livAt_sm (i:Nat):∀ x∈livAt s n i,SmI 353 x:=fun x hx=>(ygI h hn (n-1-i) (by omega) x hx).mono (by omega)
theorem yjp (i:Nat):Norm (livAt s n i):=yeD _
theorem yiS {k i:Nat} (hi:i+1<n) {x:K} (hk:k≤60000) (hx:Sm k x) (hab:(s (i+1)).a≤(s (i+1)).b):holds (livAt s n i) x=(holds (rchS s i) x&&decide (nxt s (livAt s n) i x≠[])):=by
 rw [yjd h hn hi,ycD];congr 1
 rw [swp_law (k:=k+353) (by omega) (ybU (h.b (i+1)) (h.g i)).neg (ybU (h.a (i+1)) (h.g i)).neg (by grind) (yjp h hn (i+1)) (fun y hy=>(livAt_sm h hn (i+1) y hy).mono (by omega)) (hx.mono (by omega)),Rat.neg_neg,Rat.neg_neg];unfold nxt winI;rw [Rat.add_comm (s i).g,Rat.add_comm (s i).g]
theorem liv_rch {i:Nat} (hi:i<n) {x:K} (hx:holds (livAt s n i) x=true):holds (rchS s i) x=true:=by
 by_cases h1:i+1<n
 ·rw [yjd h hn h1,ycD,Bool.and_eq_true] at hx
  exact hx.1
 rwa [liv_last h hn (by omega)] at hx
theorem liv_cov {k i:Nat} (hi:i<n) {x:K} (hk:k≤60000) (hx:Sm k x) (h0:0≤(s i).g) (hl:holds (livAt s n i) x=true):combK 3 [(⟨⟨x,false⟩,⟨mvK (s i).g x,true⟩⟩:Iv K)] (s i).d=[]:=by
 have:=rch_ero (liv_rch h hn hi hl);rw [ero_law (k:=k+28) (by omega) (yaX (h.g i)) h0 (h.norm i) (fun y hy=>(h.sm i y hy).mono (by omega)) (hx.mono (by omega)),decide_eq_true_iff] at this;exact this
theorem ygz (hh:∀ i,Hs (s i)) (hp:∀ i,0≤(s i).g∧(s i).a≤(s i).b) {t:K} (ht:Hb 64 t) (hl:holds (livAt s n 0) t=true) :
  ∀ i,i<n→holds (livAt s n i) (frm s (livAt s n) t i)=true∧(i+1<n→nxt s (livAt s n) i (frm s (livAt s n) t i)≠[])∧hstp s (frm s (livAt s n) t) i=true
 | 0,hi=>by
  refine ⟨hl,fun h1=>?_,?_⟩
  ·rw [yiS h hn h1 (by decide) ht.sm (hp 1).2,Bool.and_eq_true,decide_eq_true_iff] at hl
   exact hl.2
  unfold hstp;rw [show frm s (livAt s n) t 0=t from rfl,decide_eq_true (liv_cov h hn hi (by decide) ht.sm (hp 0).1 hl),decide_eq_true (rfl:(0:Nat)=0)]
  rfl
 | i+1,hi=>by
  obtain⟨_,h2,_⟩:=ygz hh hp ht hl i (by omega);have hne:=h2 hi;have hA:=fun i=>ydE h hh hn i;have hb:=yfR h hh hA ht i (by omega);have hb1:=yfR h hh hA ht (i+1) (by omega);have hz1:=sz_le3 (i+1) (by omega);have hz:=sz_le i (by omega);obtain⟨x,hx⟩:∃ x,frm s (livAt s n) t i=x:=⟨_,rfl⟩;rw [hx] at hb hne
  obtain⟨I,l,e⟩:∃ I l,nxt s (livAt s n) i x=I :: l:=by
   cases e:nxt s (livAt s n) i x with
   | nil=>exact absurd e hne
   | cons I l=>exact ⟨I,l,rfl⟩
  have hI:I∈nxt s (livAt s n) i x:=by rw [e];exact List.mem_cons_self ..
  obtain⟨_,_,hin⟩:=yeF h hh hA (sz_ge i) hz hb I hI;have hv:I.f<I.l:=(yaq 2 _ _).val I hI
  have ep:frm s (livAt s n) t (i+1)=yaT I:=by
   show hdK (nxt s (livAt s n) i (frm s (livAt s n) t i))=_
   rw [hx,e];rfl
  have hp1:=ygL hI (ygX hv hin);rw [← ep] at hp1;unfold nxt at hp1;rw [ycD,Bool.and_eq_true] at hp1;refine ⟨hp1.1,fun h1=>?_,?_⟩
  ·have:=hp1.1
   rw [yiS h hn h1 (by omega) hb1.sm (hp (i+1+1)).2,Bool.and_eq_true,decide_eq_true_iff] at this;exact this.2
  have h3:=hp1.2;unfold winI at h3;rw [holds_one] at h3;unfold hstp
  rw [decide_eq_true (liv_cov h hn hi (by omega) hb1.sm (hp (i+1)).1 hp1.1),Bool.true_and,show i+1-1=i by omega,hx,
   yeo hb.sm (by omega) (yaX (h.g i)) (yaX (h.a (i+1))) (ybU (h.g i) (h.a (i+1))),yeo hb.sm (by omega) (yaX (h.g i)) (yaX (h.b (i+1))) (ybU (h.g i) (h.b (i+1))),h3,Bool.or_true]
end
end
section
open Classical
def HoP (w:World) (r:Bool) (n:Int) (e:Ending) (w':World):Prop:=e = .returned (.tuple #[.bool r,.int .i64 n])∧Below w.heap.size w w'
theorem holds_p (svs:List StV) (ts:List K) (hg:Good (stS svs)) (h1:0<svs.length) (h4:svs.length≤4) (hl:ts.length=svs.length) (k0:Nat) (hk0:k0≤60000) (hsm:∀ x∈ts,Sm k0 x) (w:World) (sv tv:Value) (hr:StR w sv svs) (ht:KR w tv ts) :
  Calls prog 63 #[sv,tv] w (HoP w (hall (sAt (stS svs)) (tAt ts) svs.length) 0):=by
 have HP:=jX (pchk_c svs hg h1 w sv hr);obtain⟨xa,xc,rfl⟩:=hr.form;obtain⟨ta,tc,rfl,_⟩:=ht.form;rw [hl] at ht ⊢;have HR:=jX hr;have HT:=jX ht;have HG:=jX hg;have HS:=jX hsm;have HK:=jX hk0;have Hl:=jX hl;have HSt:=jX (StsOk.at _ hg.ok);clear hr ht hg hsm hl hk0;have HE:=jX (rfl:HoP w (hall (sAt (stS svs)) (tAt ts) svs.length) 0=HoP w (hall (sAt (stS svs)) (tAt ts) svs.length) 0);go_enter func63,ntmps63
 go_wp2_with fail;refine HP.out.mono ?_;rintro e w1 ⟨rfl,hb⟩;dsimp only;have HB:=jX hb;have HR:=jX (HR.out.grow hb);have HT:=jX (HT.out.laterB hb);clear hb HP HE;go_wp2_with fail;go_loopw [22] (fun c wr=>∃ k:Nat,k≤svs.length∧c = .int .i64 (k:Int)∧Below w1.heap.size w1 wr∧∀ i,i<k→hstp (sAt (stS svs)) (tAt ts) i=true) (fun c _=>svs.length-(intOf c).toNat)
 case atStart=>exact ⟨0,Nat.zero_le _,rfl,Below.refl _ _,fun i h=>absurd h (by omega)⟩
 case round =>
  obtain⟨k,hk,rfl,hb,hF⟩:=hrel;have HX:=jX hb;have HF:=jX hF;clear hb hF;by_cases hlt:k<svs.length
  ·have hkt:k<ts.length:=by rw [Hl.out];exact hlt
   obtain⟨g,o,rfl,hg,hat⟩:=StR.elem (HR.out.grow HX.out) k hlt;obtain⟨gt,ot,rfl,hgt,hatt⟩:=KR.elem (HT.out.laterB HX.out) k hkt;have hx:svs[k]∈svs:=List.getElem_mem hlt;have hsk:=yaY hlt;have htk:=yfq hkt;have Hlx:=jX ((HR.out.grow HX.out).ls hx);have hsmt:=HS.out _ (List.getElem_mem hkt);have hgx:FitQ 24 svs[k].s.g:=by rw [← hsk];exact yaX (HSt.out.g k)
   have hga:FitQ 24 svs[k].s.a:=by rw [← hsk];exact yaX (HSt.out.a k)
   have hgb:FitQ 24 svs[k].s.b:=by rw [← hsk];exact yaX (HSt.out.b k)
   have hpos:=HG.out.pos _ (List.mem_map_of_mem hx);have hpos1:0≤svs[k].s.g:=hpos.1;have hpos2:svs[k].s.a≤svs[k].s.b:=hpos.2;have hkc:(k:Int)<(svs.length:Int):=by omega
   have Hst:Hid (hstp (sAt (stS svs)) (tAt ts) k=(decide (combK 3 [(⟨⟨ts[k],false⟩,⟨mvK svs[k].s.g ts[k],true⟩⟩:Iv K)] svs[k].s.d=[])&&(decide (k=0) || (decide (mvK svs[k].s.a (mvK (sAt (stS svs) (k-1)).g (tAt ts (k-1)))≤ts[k])&&decide (ts[k]≤mvK svs[k].s.b (mvK (sAt (stS svs) (k-1)).g (tAt ts (k-1)))))))):=jX (by
    unfold hstp
    rw [hsk,htk])
   generalize svs[k]=x at *;generalize ts[k]=t at *;obtain⟨p,hp⟩:∃ p,o+k*13=p:=⟨_,rfl⟩;obtain⟨q,hq⟩:∃ q,ot+k*9=q:=⟨_,rfl⟩;rw [hp] at hat;rw [hq] at hatt;have Hq:=jX hq;have HL:=jX (ycL wr g p x hat);have HLt:=jX (fun (u:World) (h:u.heap[gt]? = wr.heap[gt]?)=>show (loadVar 30 ⟨gt,q,none⟩).run prog u = .ok (.agg (kC t)) u from yar _ _ _ _ (hatt.keep h))
   have H1:=jX (ybM hsmt (by have:=HK.out;omega) hgx);have HLi:=jX (fun u=>yiB (mv_ge hsmt (by have:=HK.out;omega) hgx hpos1) u);have HBd:=jX (yel t (mvK x.s.g t));rw [show kv t = .agg (kC t) from rfl,show kv (mvK x.s.g t) = .agg (kC (mvK x.s.g t)) from rfl] at HBd
   have HCv:=jX (fun u v y (h:Ls u [(v,x.s.d),(y,[(⟨⟨t,false⟩,⟨mvK x.s.g t,true⟩⟩:Iv K)])])=>h.cov (List.mem_cons_self ..) (List.mem_cons_of_mem _ (List.mem_cons_self ..)));have Hsmt:=jX hsmt;have Hfa:=jX hga;have Hfb:=jX hgb;have Hab:=jX hpos2;obtain⟨cv,hcv⟩:∃ cv,decide (combK 3 [(⟨⟨t,false⟩,⟨mvK x.s.g t,true⟩⟩:Iv K)] x.s.d=[])=cv:=⟨_,rfl⟩;rw [hcv] at HCv Hst;clear hcv hx hsk htk hsmt hgx hga hgb hpos hpos1 hpos2 hat;obtain⟨I,hI⟩:∃ I:Iv K,(⟨⟨t,false⟩,⟨mvK x.s.g t,true⟩⟩:Iv K)=I:=⟨_,rfl⟩;rw [hI] at HBd HLi HCv;clear hI;generalize kC (mvK x.s.g t)=TH at *;obtain⟨T,hT⟩:∃ T,kC t=T:=⟨_,rfl⟩;rw [hT] at HLt H1 HBd;have HTt:=jX hT;clear hT;have hxv:x.v = .slice x.a x.s.d.length x.c:=rfl;rw [hxv] at Hlx;clear hxv;go_upto_region 8 with (fail)
   refine wp_region_lit ?_;refine wV (fun _ _=>?_);go_simp;go_step;refine wV (fun _ _=>?_);go_simp;go_step;refine wX (v:=.agg x.C) ⟨g,p,none⟩ (HL.out) (fun _ _=>?_);go_simp;go_step;refine wA (yhH _ _ _ rfl) (fun w3 gs e2 bgs hgs _ hk1 _ _=>?_);go_simp;go_step;refine wV (fun _ _=>?_);go_simp;go_step;refine wR gs x.C bgs (by exact ydq x) (by rfl) x.ones (fun w4 b4 k4 _ _=>?_);go_simp;go_step;clear HL;have hkk:=(show Keep [] wr w4 from hk1.trans k4 (by simp;omega)).bz
   have HX:=jX (HX.out.trans (Below.mono hkk HX.out.size));have Bgs:=jX b4;have Hlx:=jX (Hlx.out.grow hkk);have Ht4:=jX (hkk.block gt hgt);have hgt4:gt<w4.heap.size:=Nat.lt_of_lt_of_le hgt hkk.size;clear hk1 k4 b4 bgs e2 hgs hkk hg;go_upto_region 9 with (fail)
   have hgs4:=yaa Bgs.out;refine yad (S:=fun u=>Below w4.heap.size w4 u) 13 (by kernel_rfl) (by kernel_rfl) (fun _ _ d _ _ h=>by cases d<;>exact h) ?_;have hS0:=(Keep.drew [] w4).bz;generalize World.drew w4=u at *;refine tV 0 hS0 (fun _ _=>?_);go_simp;go_step;refine tV 1 hS0 (fun _ _=>?_);go_simp;go_step;refine tV 2 hS0 (fun _ _=>?_);go_simp;go_step;refine jG (v:=.agg T) 3 hS0 (fun w hw=>yai _ _ ⟨gt,q,none⟩ _ rfl rfl (HLt.out _ ((hw.block gt hgt4).trans Ht4.out))) (fun _ _=>?_);go_simp;go_step;refine tV 4 hS0 (fun _ _=>?_);go_simp;go_step;refine tV 5 hS0 (fun _ _=>?_);go_simp;go_step;refine tV 6 hS0 (fun _ _=>?_);go_simp;go_step;refine jG (v:=.agg T) 7 hS0 (fun w hw=>yai _ _ ⟨gt,q,none⟩ _ rfl rfl (HLt.out _ ((hw.block gt hgt4).trans Ht4.out))) (fun _ _=>?_);go_simp;go_step;refine tV 8 hS0 (fun _ _=>?_);go_simp;go_step;refine jG (v:=.agg (rC x.s.g)) 9 hS0 (fun w hw=>yai _ _ ⟨gs,0+1,none⟩ _ rfl rfl (yaU ((hw.block gs hgs4).trans Bgs.out)).lg) (fun _ _=>?_);go_simp;go_step;refine uQ 10 54 #[.agg T,.agg (rC x.s.g)] hS0 (H1.out _) (fun u2 hS0 _ _ _=>?_);go_simp;go_step;refine yaG (v:=iv I) 11 (by rfl) (by decide) (by kernel_rfl) (by kernel_rfl) (by rfl) hS0 (fun w hw=>yaB 32 #[(0,.tmp 30),(1,.tmp 37)] #[(0,.agg T),(1,.agg TH)] (iC I) rfl (by simp only [List.map_toArray,List.map_cons,List.map_nil];rfl) HBd.out) (fun _ _=>?_);go_simp;go_step;refine jP 12 (fun K hK=>?_);refine ybR (.slice (some ⟨u2.heap.size,0,none⟩) 1 1) (u2.alloc (.cells (iC I) 32)) (yaJ 22 1 #[(0,.tmp 38)] #[(0,iv I)] _ rfl (by simp only [List.map_toArray,List.map_cons,List.map_nil];rfl) (ybd _ _)) ?_;obtain⟨u3,gl,e3,e4,k3,hl3⟩:=HLi.out u2;rw [e3,e4];have hS0:=hS0.trans (Below.mono k3.bz hS0.size);have Hl3:=jX hl3;clear e3 e4 k3 hl3;go_simp;refine hK _ _ hS0 ?_;clear hK K;refine ⟨by kernel_rfl,?_⟩;simp only [List.drop_succ_cons,List.drop_zero];have HX:=jX (HX.out.trans (Below.mono hS0 HX.out.size));have Bgs:=jX ((hS0.block gs hgs4).trans Bgs.out);have Hlx:=jX (Hlx.out.grow hS0);have Ht5:=jX ((hS0.block gt hgt4).trans Ht4.out);have hgt5:gt<u3.heap.size:=Nat.lt_of_lt_of_le hgt4 hS0.size;clear hS0 HLi HBd H1 hgs4 Ht4 hgt4;have pd:u3.cell? ⟨gs,0,none⟩=some (.slice x.a x.s.d.length x.c):=(yaU Bgs.out).d0;go_upto_region 10 with (fail)
   refine wp_region_lit ?_;refine wV (fun _ _=>?_);go_simp;go_step;refine wV (fun _ _=>?_);go_simp;go_step;refine wV (fun _ _=>?_);go_simp;go_step;refine wE 50 #[.slice x.a x.s.d.length x.c,.slice (some ⟨gl,0,none⟩) 1 1] (HCv.out _ _ _ (Hlx.out.one Hl3.out)) (fun w5 hb _ _=>?_);go_simp;go_step;have HX:=jX (HX.out.trans (Below.mono hb HX.out.size));have Bgs:=jX ((hb.block gs (yaa Bgs.out)).trans Bgs.out);have Ht5:=jX ((hb.block gt hgt5).trans Ht5.out);have hgt5:gt<w5.heap.size:=Nat.lt_of_lt_of_le hgt5 hb.size;clear hb HCv Hlx Hl3 pd;cases cv with
   | false =>
    rw [Bool.false_and] at Hst;have Hno:=jX (yfj hlt Hst.out);have HB:=jX (HB.out.trans (Below.mono HX.out HB.out.size));go_wp2_with fail;go_ret2
    exact ⟨by rw [Hno.out];rfl,HB.out⟩
   | true =>
    rw [Bool.true_and] at Hst;by_cases hk0:k=0
    ·rw [decide_eq_true hk0,Bool.true_or] at Hst
     have hgt0:¬ (0:Int)<(k:Int):=by omega
     go_upto_region 12 with (fail)
     refine yad (S:=fun u=>Below w5.heap.size w5 u) 26 (by kernel_rfl) (by kernel_rfl) (fun _ _ d _ _ h=>by cases d<;>exact h) ?_;have hS0:=(Keep.drew [] w5).bz;generalize World.drew w5=u6 at *;refine tV 0 hS0 (fun _ _=>?_);go_simp;go_step;refine tV 1 hS0 (fun _ _=>?_);go_simp;go_step;refine tV 2 hS0 (fun _ _=>?_);go_simp;go_step;refine tS 3 hS0 (fun _ _=>?_);go_simp;go_step;refine tS 4 hS0 (fun _ _=>?_);go_simp;go_step;refine tS 5 hS0 (fun _ _=>?_);go_simp;go_step;refine tS 6 hS0 (fun _ _=>?_);go_simp;go_step;refine tS 7 hS0 (fun _ _=>?_);go_simp;go_step;refine tS 8 hS0 (fun _ _=>?_);go_simp;go_step;refine tS 9 hS0 (fun _ _=>?_);go_simp;go_step;refine tS 10 hS0 (fun _ _=>?_);go_simp;go_step;refine tS 11 hS0 (fun _ _=>?_);go_simp;go_step;refine tS 12 hS0 (fun _ _=>?_);go_simp;go_step;refine tS 13 hS0 (fun _ _=>?_);go_simp;go_step;refine tS 14 hS0 (fun _ _=>?_);go_simp;go_step;refine tS 15 hS0 (fun _ _=>?_);go_simp;go_step;refine tS 16 hS0 (fun _ _=>?_);go_simp;go_step;refine tS 17 hS0 (fun _ _=>?_);go_simp;go_step;refine tS 18 hS0 (fun _ _=>?_);go_simp;go_step;refine tS 19 hS0 (fun _ _=>?_);go_simp;go_step;refine tS 20 hS0 (fun _ _=>?_);go_simp;go_step;refine tS 21 hS0 (fun _ _=>?_);go_simp;go_step;refine tS 22 hS0 (fun _ _=>?_);go_simp;go_step;refine tS 23 hS0 (fun _ _=>?_);go_simp;go_step;refine tS 24 hS0 (fun _ _=>?_);go_simp;go_step;refine tS 25 hS0 (fun _ _=>?_);go_simp;go_step;refine ⟨by kernel_rfl,?_⟩;simp only [List.drop_succ_cons,List.drop_zero];have HX:=jX (HX.out.trans (Below.mono hS0 HX.out.size));clear hS0;go_wp2_with fail;go_roundw
     case rel=>exact ⟨k+1,by omega,congrArg (Value.int .i64) (by omega),HX.out,fun i hi=>by
      by_cases h:i<k
      ·exact HF.out i h
      rw [show i=k by omega];exact Hst.out⟩
     case measure=>simp [intOf];omega
    rw [decide_eq_false hk0,Bool.false_or] at Hst;have hgt0:(0:Int)<(k:Int):=by omega
    have hgt1:0<k:=by omega
    obtain⟨j,hj⟩:∃ j,k=j+1:=⟨k-1,by omega⟩;have hjl:j<svs.length:=by omega
    have hjt:j<ts.length:=by rw [Hl.out];omega
    have hsub:IntKind.i64.wrap ((k:Int)-1)=(j:Int):=by rw [show (k:Int)-1=(j:Int) by omega];exact IntWalk.i64_in _ (by omega)
    have hj1:(j:Int)<(svs.length:Int):=by omega
    have hj0:(0:Int)≤(j:Int):=by omega
    rw [show k-1=j by omega,yaY hjl,yfq hjt] at Hst
    have Hj:=jX hj;clear hj;obtain⟨g',o',hge,hg5,hatj⟩:=StR.elem (HR.out.grow HX.out) j hjl;obtain⟨rfl,rfl⟩:g'=g∧o'=o:=by injection hge with hge;injection hge with h1 h2;exact ⟨h1.symm,h2.symm⟩
    obtain⟨gt',ot',hgte,_,hattj⟩:=KR.elem (HT.out.laterB HX.out) j hjt;obtain⟨rfl,rfl⟩:gt'=gt∧ot'=ot:=by injection hgte with hge;injection hge with h1 h2;exact ⟨h1.symm,h2.symm⟩
    have hsj:=yaY hjl;have hgj:FitQ 24 svs[j].s.g:=by rw [← hsj];exact yaX (HSt.out.g j)
    have hsmj:=HS.out _ (List.getElem_mem hjt);generalize svs[j]=y at *;generalize ts[j]=tj at *;obtain⟨pj,hpj⟩:∃ pj,o'+j*13=pj:=⟨_,rfl⟩;obtain⟨qj,hqj⟩:∃ qj,ot'+j*9=qj:=⟨_,rfl⟩;rw [hpj] at hatj;rw [hqj] at hattj;have Hatj:=jX hatj;have HLj:=jX (fun (u:World) (h:u.heap[gt']? = w5.heap[gt']?)=>show (loadVar 30 ⟨gt',qj,none⟩).run prog u = .ok (.agg (kC tj)) u from yar _ _ _ _ (hattj.keep h))
    have H1:=jX (ybM hsmj (by have:=HK.out;omega) hgj);have hsb:Sm (k0+25) (mvK y.s.g tj):=ycq hsmj (by have:=HK.out;omega) hgj;have H2:=jX (yiQ (k0+25) (by have:=HK.out;omega) (mvK y.s.g tj) hsb x.s.a x.s.b Hfa.out Hfb.out Hab.out);have HCn:=jX (fun u v (h:Ls u [(v,[(⟨⟨mvK x.s.a (mvK y.s.g tj),false⟩,⟨mvK x.s.b (mvK y.s.g tj),true⟩⟩:Iv K)])])=>h.cont (List.mem_singleton.2 rfl) t);rw [holds_one,show kv t = .agg (kC t) from rfl,HTt.out] at HCn
    obtain⟨cn,hcn⟩:∃ cn,(decide (mvK x.s.a (mvK y.s.g tj)≤t)&&decide (t≤mvK x.s.b (mvK y.s.g tj)))=cn:=⟨_,rfl⟩;rw [hcn] at HCn Hst;clear hcn hatj hattj hge hgte hsj hgj hsmj hsb;generalize mvK y.s.g tj=bf at *;generalize kC tj=TJ at *;generalize kC bf=BF at *;have hgs5:=yaa Bgs.out;go_upto_region 12 with (fail)
    refine yad (S:=fun u=>Below w5.heap.size w5 u) 26 (by kernel_rfl) (by kernel_rfl) (fun _ _ d _ _ h=>by cases d<;>exact h) ?_;have hS0:=(Keep.drew [] w5).bz;generalize World.drew w5=u6 at *;refine tV 0 hS0 (fun _ _=>?_);go_simp;go_step;refine tV 1 hS0 (fun _ _=>?_);go_simp;go_step;refine tV 2 hS0 (fun _ _=>?_);go_simp;go_step;refine tV 3 hS0 (fun _ _=>?_);go_simp;go_step;refine tV 4 hS0 (fun _ _=>?_);go_simp;go_step;refine tV 5 hS0 (fun _ _=>?_);go_simp;go_step;refine tV 6 hS0 (fun _ _=>?_);go_simp;go_step;refine jG (v:=.agg TJ) 7 hS0 (fun w hw=>yai _ _ ⟨gt',qj,none⟩ _ rfl rfl (HLj.out _ (hw.block gt' hgt5))) (fun _ _=>?_);go_simp;go_step;refine tV 8 hS0 (fun _ _=>?_);go_simp;go_step;refine tV 9 hS0 (fun _ _=>?_);go_simp;go_step;refine tV 10 hS0 (fun _ _=>?_);go_simp;go_step;refine tV 11 hS0 (fun _ _=>?_);go_simp;go_step;refine tV 12 hS0 (fun _ _=>?_);go_simp;go_step;refine jG (v:=.agg (rC y.s.g)) 13 hS0 (fun w hw=>yai _ _ ⟨g',pj+1,none⟩ _ rfl rfl ((Hatj.out.keep (hw.block g' hg5)).lg)) (fun _ _=>?_);go_simp;go_step;refine tV 15 hS0 (fun _ _=>?_);go_simp;go_step;refine jG (v:=.agg (rC x.s.a)) 16 hS0 (fun w hw=>yai _ _ ⟨gs,0+5,none⟩ _ rfl rfl (yaU ((hw.block gs hgs5).trans Bgs.out)).la) (fun _ _=>?_);go_simp;go_step;refine tV 17 hS0 (fun _ _=>?_);go_simp;go_step;refine jG (v:=.agg (rC x.s.b)) 18 hS0 (fun w hw=>yai _ _ ⟨gs,0+9,none⟩ _ rfl rfl (yaU ((hw.block gs hgs5).trans Bgs.out)).lb) (fun _ _=>?_);go_simp;go_step;refine tV 20 hS0 (fun _ _=>?_);go_simp;go_step;refine tV 21 hS0 (fun _ _=>?_);go_simp;go_step;refine tV 22 hS0 (fun _ _=>?_);go_simp;go_step;refine jG (v:=.agg T) 23 hS0 (fun w hw=>yai _ _ ⟨gt',q,none⟩ _ rfl rfl (HLt.out _ ((hw.block gt' hgt5).trans Ht5.out))) (fun _ _=>?_);go_simp;go_step;refine uQ 14 54 #[.agg TJ,.agg (rC y.s.g)] hS0 (H1.out _) (fun u7 hS0 _ _ _=>?_);go_simp;go_step;refine jP 19 (fun K hK=>?_);refine yaf 119 #[.agg BF,.agg (rC x.s.a),.agg (rC x.s.b)] (by go_simp) ?_;refine (H2.out _).mono ?_;rintro e u8 ⟨gw,rfl,hb,hlw⟩;have hS0:=hS0.trans (Below.mono hb hS0.size);refine ⟨_,rfl,?_⟩;go_simp;refine hK _ _ hS0 ?_;clear hK K;refine uR 24 56 #[.slice (some ⟨gw,0,none⟩) 1 1,.agg T] hS0 (HCn.out _ _ hlw) (fun u9 hS0 hb _ _=>?_);go_simp;go_step;refine tV 25 hS0 (fun _ _=>?_);go_simp;go_step;refine ⟨by kernel_rfl,?_⟩;simp only [List.drop_succ_cons,List.drop_zero];have HX:=jX (HX.out.trans (Below.mono hS0 HX.out.size));clear hS0 hb hlw H1 H2 HCn HLj Hatj hgs5;cases cn with
    | false =>
     have Hno:=jX (yfj hlt Hst.out);have HB:=jX (HB.out.trans (Below.mono HX.out HB.out.size));go_wp2_with fail;go_ret2
     exact ⟨by rw [Hno.out];rfl,HB.out⟩
    | true =>
     go_wp2_with fail;go_roundw
     case rel=>exact ⟨k+1,by omega,congrArg (Value.int .i64) (by omega),HX.out,fun i hi=>by
      by_cases h:i<k
      ·exact HF.out i h
      rw [show i=k by omega];exact Hst.out⟩
     case measure=>simp [intOf];omega
  have hkn:k=svs.length:=by omega
  have hkc:¬ ((k:Int)<(svs.length:Int)):=by omega
  have Hy:=jX (ygy (s:=sAt (stS svs)) (t:=tAt ts) (n:=svs.length) (fun i hi=>HF.out i (by omega)));have HB:=jX (HB.out.trans (Below.mono HX.out HB.out.size));clear HF hkn;go_wp2_with fail;go_ret2
  exact ⟨by rw [Hy.out];rfl,HB.out⟩
end
section
open Classical
theorem al_rlN (ev:Operand→Value) (w:World) (o:Oper) (ho:o.op = .alloc 30):(execOp ev o).run prog w = .ok (.value (.pointer (some ⟨w.heap.size,0,none⟩))) (w.alloc (.cells #[.bool false,.string ⟨#[]⟩,.bool false,.string ⟨#[]⟩,.bool false,.string ⟨#[]⟩,.bool false,.string ⟨#[]⟩,.bool false] 30)):=by
 unfold execOp;simp only [ho];go_simp
theorem cmp_lt0 (x y:K):(cmpQ x.1 y.1<0)↔x<y:=by
 rcases K.tri x y with ⟨h,k⟩|⟨h,k⟩|⟨h,k⟩<;>rw [h]<;>constructor<;>intro q<;>first|decide|grind
theorem cmp_gt0 (x y:K):(0<cmpQ x.1 y.1)↔y<x:=by
 rcases K.tri x y with ⟨h,k⟩|⟨h,k⟩|⟨h,k⟩<;>rw [h]<;>constructor<;>intro q<;>first|decide|grind
theorem rholds_c (svs:List StV) (ts:List K) (hg:Good (stS svs)) (h1:0<svs.length) (h4:svs.length≤4) (hl:ts.length=svs.length) (k0:Nat) (hk0:k0≤60000) (hsm:∀ x∈ts,Sm k0 x) (w:World) (sv tv:Value) (hr:StR w sv svs) (ht:KR w tv ts) :
  Calls prog 64 #[sv,tv] w (BPost w (hall (sAt (stS svs)) (tAt ts) svs.length)):=by
 obtain⟨xa,xc,rfl⟩:=hr.form;obtain⟨ta,tc,rfl,_⟩:=ht.form;rw [hl] at ht ⊢;have HR:=jX hr;have HT:=jX ht;have HG:=jX hg;have HS:=jX hsm;have HK:=jX hk0;have Hl:=jX hl;have HSt:=jX (StsOk.at _ hg.ok);clear hr ht hg hsm hl hk0;have HE:=jX (rfl:BPost w (hall (sAt (stS svs)) (tAt ts) svs.length)=BPost w (hall (sAt (stS svs)) (tAt ts) svs.length));go_enter func64,ntmps64
 go_wp2_with fail;go_loopw [5] (fun c wr=>∃ k:Nat,k≤svs.length∧c = .int .i64 (k:Int)∧Below w.heap.size w wr∧∀ i,i<k→hstp (sAt (stS svs)) (tAt ts) i=true) (fun c _=>svs.length-(intOf c).toNat)
 case atStart=>exact ⟨0,Nat.zero_le _,rfl,Below.refl _ _,fun i h=>absurd h (by omega)⟩
 case round =>
  obtain⟨k,hk,rfl,hb,hF⟩:=hrel;have HX:=jX hb;have HF:=jX hF;clear hb hF;by_cases hlt:k<svs.length
  ·have hkt:k<ts.length:=by rw [Hl.out];exact hlt
   obtain⟨g,o,rfl,hg,hat⟩:=StR.elem (HR.out.grow HX.out) k hlt;obtain⟨gt,ot,rfl,hgt,hatt⟩:=KR.elem (HT.out.laterB HX.out) k hkt;have hx:svs[k]∈svs:=List.getElem_mem hlt;have hsk:=yaY hlt;have htk:=yfq hkt;have Hlx:=jX ((HR.out.grow HX.out).ls hx);have hsmt:=HS.out _ (List.getElem_mem hkt);have hgx:FitQ 24 svs[k].s.g:=by rw [← hsk];exact yaX (HSt.out.g k)
   have hga:FitQ 24 svs[k].s.a:=by rw [← hsk];exact yaX (HSt.out.a k)
   have hgb:FitQ 24 svs[k].s.b:=by rw [← hsk];exact yaX (HSt.out.b k)
   have hpos:=HG.out.pos _ (List.mem_map_of_mem hx);have hpos1:0≤svs[k].s.g:=hpos.1;have hkc:(k:Int)<(svs.length:Int):=by omega
   have Hst:Hid (hstp (sAt (stS svs)) (tAt ts) k=(decide (combK 3 [(⟨⟨ts[k],false⟩,⟨mvK svs[k].s.g ts[k],true⟩⟩:Iv K)] svs[k].s.d=[])&&(decide (k=0) || (decide (mvK svs[k].s.a (mvK (sAt (stS svs) (k-1)).g (tAt ts (k-1)))≤ts[k])&&decide (ts[k]≤mvK svs[k].s.b (mvK (sAt (stS svs) (k-1)).g (tAt ts (k-1)))))))):=jX (by
    unfold hstp
    rw [hsk,htk])
   generalize svs[k]=x at *;generalize ts[k]=t at *;obtain⟨p,hp⟩:∃ p,o+k*13=p:=⟨_,rfl⟩;obtain⟨q,hq⟩:∃ q,ot+k*9=q:=⟨_,rfl⟩;rw [hp] at hat;rw [hq] at hatt;have Hat:=jX hat;have HPd:Hid (∀ u:World,u.heap[g]? = wr.heap[g]? → u.cell? ⟨g,p,none⟩=some (.slice x.a x.s.d.length x.c)):=jX fun u h=>(hat.keep h).d0;have HLt:=jX (fun (u:World) (h:u.heap[gt]? = wr.heap[gt]?)=>show (loadVar 30 ⟨gt,q,none⟩).run prog u = .ok (.agg (kC t)) u from yar _ _ _ _ (hatt.keep h))
   have H1:=jX (ybM hsmt (by have:=HK.out;omega) hgx);have HLi:=jX (fun u=>yiB (mv_ge hsmt (by have:=HK.out;omega) hgx hpos1) u);have HBd:=jX (yel t (mvK x.s.g t));rw [show kv t = .agg (kC t) from rfl,show kv (mvK x.s.g t) = .agg (kC (mvK x.s.g t)) from rfl] at HBd
   have HCv:=jX (fun u v y (h:Ls u [(v,x.s.d),(y,[(⟨⟨t,false⟩,⟨mvK x.s.g t,true⟩⟩:Iv K)])])=>h.cov (List.mem_cons_self ..) (List.mem_cons_of_mem _ (List.mem_cons_self ..)));have Hfa:=jX hga;have Hfb:=jX hgb;obtain⟨cv,hcv⟩:∃ cv,decide (combK 3 [(⟨⟨t,false⟩,⟨mvK x.s.g t,true⟩⟩:Iv K)] x.s.d=[])=cv:=⟨_,rfl⟩;rw [hcv] at HCv Hst;clear hcv hx hsk htk hsmt hgx hga hgb hpos hpos1 hat;obtain⟨I,hI⟩:∃ I:Iv K,(⟨⟨t,false⟩,⟨mvK x.s.g t,true⟩⟩:Iv K)=I:=⟨_,rfl⟩;rw [hI] at HBd HLi HCv;clear hI;have HSz:Hid ((kC (mvK x.s.g t)).size=9∧(kC (mvK x.s.g t)).all (·.oneCell')=true):=jX ⟨(ybg _).2.1,(ybg _).2.2⟩;have HLh:=jX (fun (u:World) (h:Nat) (hh:u.heap[h]? = some (.cells (kC (mvK x.s.g t)) 30))=>show (loadVar 30 ⟨h,0,none⟩).run prog u = .ok (.agg (kC (mvK x.s.g t))) u from yar _ _ _ _ (yen hh))
   generalize kC (mvK x.s.g t)=TH at *;obtain⟨T,hT⟩:∃ T,kC t=T:=⟨_,rfl⟩;rw [hT] at HLt H1 HBd;have HTt:=jX hT;clear hT;have hxv:x.v = .slice x.a x.s.d.length x.c:=rfl;rw [hxv] at Hlx;clear hxv;go_upto_region 4 with (fail)
   refine yaA 11 [(6,30)] (fun _=>.cells #[.bool false,.string ⟨#[]⟩,.bool false,.string ⟨#[]⟩,.bool false,.string ⟨#[]⟩,.bool false,.string ⟨#[]⟩,.bool false] 30) (by kernel_rfl) (by kernel_rfl) (by kernel_rfl) (fun t ht ev w o ho=>by simp at ht;subst ht;exact al_rlN ev w o ho) ?_;intro U hU;have L1:∀ m:KW U,(loadVar 30 ⟨gt,q,none⟩).run prog (Wk U m) = .ok (.agg T) (Wk U m):=fun m=>HLt.out _ ((m.k.block gt (Nat.lt_of_lt_of_le hgt hU.size) (by simp)).trans (hU.block gt hgt (by simp)));have L2:∀ m:KW U,(loadVar 28 ⟨g,p+1,none⟩).run prog (Wk U m) = .ok (.agg (rC x.s.g)) (Wk U m):=fun m=>(Hat.out.keep ((m.k.block g (Nat.lt_of_lt_of_le hg hU.size) (by simp)).trans (hU.block g hg (by simp)))).lg;have Q1:Hid (∀ m:KW U,Calls prog 54 #[.agg T,.agg (rC x.s.g)] (Wk U m) fun e w'=>e = .returned (.agg TH)∧∃ m,w'=Wk U m):=fun m=>qk m (H1.out _);simp only [List.map_cons,List.map_nil,unal,isAl,if_true,if_false,Bool.false_eq_true,List.take_succ_cons,List.take_zero]
   repeat (first
    | go_big_quiet_skip
    | (go_big_quiet_want;first
     | (refine yaj _ _ _ (.agg T) rfl rfl (by rintro _ ⟨m,rfl⟩;exact L1 m) ?_;go_simp;go_big_quiet_on)|(refine yaj _ _ _ (.agg (rC x.s.g)) rfl rfl (by rintro _ ⟨m,rfl⟩;exact L2 m) ?_;go_simp;go_big_quiet_on)
     | (go_big_quiet_op;first|go_big_quiet_on|go_big_quiet_call (first
      | (go_at_call 54;with_reducible exact (Q1).out _)))))
   refine wpQuiet_nil ?_;intro P hp1 hp2 w4a hk9 hz;have bg1:=hz (6,30) (by simp);have hg1:=hp1 6 (by simp);simp only [List.map_cons,List.map_nil,pl,List.drop_succ_cons,List.drop_zero];dsimp only at bg1;generalize P 6=gh at *;clear hz hp1 hp2 hU L1 L2 Q1 U P;refine wR gh TH bg1 (by rw [HSz.out.1];exact k_size) (by rw [HSz.out.1];rfl) HSz.out.2 (fun w4 ba ka _ _=>?_);go_simp;go_step;have hkk:=(show Keep [] wr w4 from hk9.trans ka (by simp;exact hg1)).bz
   have HX:=jX (HX.out.trans (Below.mono hkk HX.out.size));have Bgh:=jX ba;have Hlx:=jX (Hlx.out.grow hkk);have Ht4:=jX (hkk.block gt hgt);have hgt4:gt<w4.heap.size:=Nat.lt_of_lt_of_le hgt hkk.size;have Hg4:=jX (hkk.block g hg);have hg4:g<w4.heap.size:=Nat.lt_of_lt_of_le hg hkk.size;clear hk9 ka ba bg1 hkk hg1 H1;go_upto_region 5 with (fail)
   have hgh4:=yaa Bgh.out;refine yad (S:=fun u=>Below w4.heap.size w4 u) 13 (by kernel_rfl) (by kernel_rfl) (fun _ _ d _ _ h=>by cases d<;>exact h) ?_;have hS0:=(Keep.drew [] w4).bz;generalize World.drew w4=u at *;refine tV 0 hS0 (fun _ _=>?_);go_simp;go_step;refine tV 1 hS0 (fun _ _=>?_);go_simp;go_step;refine tV 2 hS0 (fun _ _=>?_);go_simp;go_step;refine tV 3 hS0 (fun _ _=>?_);go_simp;go_step;refine' jG (v:=_) 4 hS0 (fun w hw=>?hha4) (fun K hK=>?kha4)
   case hha4=>(have pd:=HPd.out _ ((hw.block g hg4).trans Hg4.out);go_simp;try rfl)
   go_simp;go_step;refine tV 5 hS0 (fun _ _=>?_);go_simp;go_step;refine tV 6 hS0 (fun _ _=>?_);go_simp;go_step;refine tV 7 hS0 (fun _ _=>?_);go_simp;go_step;refine jG (v:=.agg T) 8 hS0 (fun w hw=>yai _ _ ⟨gt,q,none⟩ _ rfl rfl (HLt.out _ ((hw.block gt hgt4).trans Ht4.out))) (fun _ _=>?_);go_simp;go_step;refine jG (v:=.agg TH) 9 hS0 (fun w hw=>yai _ _ ⟨gh,0,none⟩ _ rfl rfl (HLh.out _ _ ((hw.block gh hgh4).trans Bgh.out))) (fun _ _=>?_);go_simp;go_step;refine yaG (v:=iv I) 10 (by rfl) (by decide) (by kernel_rfl) (by kernel_rfl) (by rfl) hS0 (fun w hw=>yaB 32 #[(0,.tmp 32),(1,.tmp 33)] #[(0,.agg T),(1,.agg TH)] (iC I) rfl (by simp only [List.map_toArray,List.map_cons,List.map_nil];rfl) HBd.out) (fun _ _=>?_);go_simp;go_step;refine jP 11 (fun K hK=>?_);refine ybR (.slice (some ⟨u.heap.size,0,none⟩) 1 1) (u.alloc (.cells (iC I) 32)) (yaJ 22 1 #[(0,.tmp 34)] #[(0,iv I)] _ rfl (by simp only [List.map_toArray,List.map_cons,List.map_nil];rfl) (ybd _ _)) ?_;obtain⟨u3,gl,e3,e4,k3,hl3⟩:=HLi.out u;rw [e3,e4];have hS0:=hS0.trans (Below.mono k3.bz hS0.size);have Hl3:=jX hl3;clear e3 e4 k3 hl3;go_simp;refine hK _ _ hS0 ?_;clear hK K;refine uR 12 50 #[.slice x.a x.s.d.length x.c,.slice (some ⟨gl,0,none⟩) 1 1] hS0 (HCv.out _ _ _ ((Hlx.out.grow hS0).one Hl3.out)) (fun w5 hS0 hb _ _=>?_);go_simp;go_step;refine ⟨by kernel_rfl,?_⟩;simp only [List.drop_succ_cons,List.drop_zero];have HX:=jX (HX.out.trans (Below.mono hS0 HX.out.size));have Ht5:=jX ((hS0.block gt hgt4).trans Ht4.out);have hgt5:gt<w5.heap.size:=Nat.lt_of_lt_of_le hgt4 hS0.size;have Hg5:=jX ((hS0.block g hg4).trans Hg4.out);have hg5:g<w5.heap.size:=Nat.lt_of_lt_of_le hg4 hS0.size;clear hS0 hb HLi HBd Ht4 hgt4 Hg4 hg4 HCv Hlx Hl3 HLh HSz Bgh hgh4;cases cv with
   | false =>
    rw [Bool.false_and] at Hst;have Hno:=jX (yfj hlt Hst.out);go_wp2_with fail;go_ret
    exact ⟨by rw [Hno.out];rfl,HX.out⟩
   | true =>
    rw [Bool.true_and] at Hst;by_cases hk0:k=0
    ·rw [decide_eq_true hk0,Bool.true_or] at Hst
     have hkb:((k:Int) == 0)=true:=by rw [beq_iff_eq];omega
     go_wp2_with fail;go_roundw
     case rel=>exact ⟨k+1,by omega,congrArg (Value.int .i64) (by omega),HX.out,fun i hi=>by
      by_cases h:i<k
      ·exact HF.out i h
      rw [show i=k by omega];exact Hst.out⟩
     case measure=>simp [intOf];omega
    rw [decide_eq_false hk0,Bool.false_or] at Hst;have hkb:((k:Int) == 0)=false:=by rw [beq_eq_false_iff_ne];omega
    obtain⟨j,hj⟩:∃ j,k=j+1:=⟨k-1,by omega⟩;have hjl:j<svs.length:=by omega
    have hjt:j<ts.length:=by rw [Hl.out];omega
    have hsub:IntKind.i64.wrap ((k:Int)-1)=(j:Int):=by rw [show (k:Int)-1=(j:Int) by omega];exact IntWalk.i64_in _ (by omega)
    have hj1:(j:Int)<(svs.length:Int):=by omega
    have hj0:(0:Int)≤(j:Int):=by omega
    rw [show k-1=j by omega,yaY hjl,yfq hjt] at Hst
    have Hj:=jX hj;clear hj;obtain⟨g',o',hge,hgq,hatj⟩:=StR.elem (HR.out.grow HX.out) j hjl;obtain⟨rfl,rfl⟩:g'=g∧o'=o:=by injection hge with hge;injection hge with h1 h2;exact ⟨h1.symm,h2.symm⟩
    obtain⟨gt',ot',hgte,_,hattj⟩:=KR.elem (HT.out.laterB HX.out) j hjt;obtain⟨rfl,rfl⟩:gt'=gt∧ot'=ot:=by injection hgte with hge;injection hge with h1 h2;exact ⟨h1.symm,h2.symm⟩
    have hsj:=yaY hjl;have hgj:FitQ 24 svs[j].s.g:=by rw [← hsj];exact yaX (HSt.out.g j)
    have hsmj:=HS.out _ (List.getElem_mem hjt);generalize svs[j]=y at *;generalize ts[j]=tj at *;obtain⟨pj,hpj⟩:∃ pj,o'+j*13=pj:=⟨_,rfl⟩;obtain⟨qj,hqj⟩:∃ qj,ot'+j*9=qj:=⟨_,rfl⟩;rw [hpj] at hatj;rw [hqj] at hattj;have Hatj:=jX hatj;have HLj:=jX (fun (u:World) (h:u.heap[gt']? = w5.heap[gt']?)=>show (loadVar 30 ⟨gt',qj,none⟩).run prog u = .ok (.agg (kC tj)) u from yar _ _ _ _ (hattj.keep h))
    have H1:=jX (ybM hsmj (by have:=HK.out;omega) hgj);have hsb:Sm (k0+25) (mvK y.s.g tj):=ycq hsmj (by have:=HK.out;omega) hgj;have H2:=jX (ybM hsb (by have:=HK.out;omega) Hfa.out);have H3:=jX (ybM hsb (by have:=HK.out;omega) Hfb.out);have H4:=jX (yga t (mvK x.s.a (mvK y.s.g tj)));have H5:=jX (yga t (mvK x.s.b (mvK y.s.g tj)));have HSz:Hid ((kC (mvK y.s.g tj)).size=9∧(kC (mvK y.s.g tj)).all (·.oneCell')=true):=jX ⟨(ybg _).2.1,(ybg _).2.2⟩;have HLh:=jX (fun (u:World) (h:Nat) (hh:u.heap[h]? = some (.cells (kC (mvK y.s.g tj)) 30))=>show (loadVar 30 ⟨h,0,none⟩).run prog u = .ok (.agg (kC (mvK y.s.g tj))) u from yar _ _ _ _ (yen hh))
    have c1:=cmp_lt0 t (mvK x.s.a (mvK y.s.g tj));have c2:=cmp_gt0 t (mvK x.s.b (mvK y.s.g tj));rw [show kv t = .agg (kC t) from rfl,HTt.out] at H4 H5
    rw [show kv (mvK x.s.a (mvK y.s.g tj)) = .agg (kC (mvK x.s.a (mvK y.s.g tj))) from rfl] at H4
    rw [show kv (mvK x.s.b (mvK y.s.g tj)) = .agg (kC (mvK x.s.b (mvK y.s.g tj))) from rfl] at H5
    clear hatj hattj hge hgte hsj hgj hsmj hsb;generalize mvK y.s.g tj=bf at *;generalize mvK x.s.a bf=lo at *;generalize mvK x.s.b bf=hi at *;generalize kC tj=TJ at *;generalize kC bf=BF at *;generalize kC lo=LO at *;generalize kC hi=HI at *
    have C1:Hid (decide (lo≤t) = !decide (cmpQ t.1 lo.1<0)):=jX (by
     rw [Bool.eq_iff_iff,decide_eq_true_iff,Bool.not_eq_true',decide_eq_false_iff_not,c1]
     grind)
    have C2:Hid (decide (t≤hi) = !decide (0<cmpQ t.1 hi.1)):=jX (by
     rw [Bool.eq_iff_iff,decide_eq_true_iff,Bool.not_eq_true',decide_eq_false_iff_not,c2]
     grind)
    rw [C1.out,C2.out] at Hst;clear C1 C2 c1 c2;generalize cmpQ t.1 lo.1=n1 at *;generalize cmpQ t.1 hi.1=n2 at *;go_upto_region 8 with (fail)
    refine yaA 13 [(7,30)] (fun _=>.cells #[.bool false,.string ⟨#[]⟩,.bool false,.string ⟨#[]⟩,.bool false,.string ⟨#[]⟩,.bool false,.string ⟨#[]⟩,.bool false] 30) (by kernel_rfl) (by kernel_rfl) (by kernel_rfl) (fun t ht ev w o ho=>by simp at ht;subst ht;exact al_rlN ev w o ho) ?_;intro U hU;have L1:∀ m:KW U,(loadVar 30 ⟨gt',qj,none⟩).run prog (Wk U m) = .ok (.agg TJ) (Wk U m):=fun m=>HLj.out _ ((m.k.block gt' (Nat.lt_of_lt_of_le hgt5 hU.size) (by simp)).trans (hU.block gt' hgt5 (by simp)));have L2:∀ m:KW U,(loadVar 28 ⟨g',pj+1,none⟩).run prog (Wk U m) = .ok (.agg (rC y.s.g)) (Wk U m):=fun m=>(Hatj.out.keep ((m.k.block g' (Nat.lt_of_lt_of_le hgq hU.size) (by simp)).trans (hU.block g' hgq (by simp)))).lg;have Q1:Hid (∀ m:KW U,Calls prog 54 #[.agg TJ,.agg (rC y.s.g)] (Wk U m) fun e w'=>e = .returned (.agg BF)∧∃ m,w'=Wk U m):=fun m=>qk m (H1.out _);simp only [List.map_cons,List.map_nil,unal,isAl,if_true,if_false,Bool.false_eq_true,List.take_succ_cons,List.take_zero]
    repeat (first
     | go_big_quiet_skip
     | (go_big_quiet_want;first
      | (refine yaj _ _ _ (.agg TJ) rfl rfl (by rintro _ ⟨m,rfl⟩;exact L1 m) ?_;go_simp;go_big_quiet_on)|(refine yaj _ _ _ (.agg (rC y.s.g)) rfl rfl (by rintro _ ⟨m,rfl⟩;exact L2 m) ?_;go_simp;go_big_quiet_on)
      | (go_big_quiet_op;first|go_big_quiet_on|go_big_quiet_call (first
       | (go_at_call 54;with_reducible exact (Q1).out _)))))
    refine wpQuiet_nil ?_;intro P hp1 hp2 w7a hk9 hz;have bg1:=hz (7,30) (by simp);have hg1:=hp1 7 (by simp);simp only [List.map_cons,List.map_nil,pl,List.drop_succ_cons,List.drop_zero];dsimp only at bg1;generalize P 7=gf at *;clear hz hp1 hp2 hU L1 L2 Q1 U P;refine wR gf BF bg1 (by rw [HSz.out.1];exact k_size) (by rw [HSz.out.1];rfl) HSz.out.2 (fun w8 ba ka _ _=>?_);go_simp;go_step;have hkk:=(show Keep [] w5 w8 from hk9.trans ka (by simp;exact hg1)).bz
    have HX:=jX (HX.out.trans (Below.mono hkk HX.out.size));have Bgf:=jX ba;have Ht8:=jX ((hkk.block gt' hgt5).trans Ht5.out);have hgt8:gt'<w8.heap.size:=Nat.lt_of_lt_of_le hgt5 hkk.size;have Hg8:=jX ((hkk.block g' hg5).trans Hg5.out);have hg8:g'<w8.heap.size:=Nat.lt_of_lt_of_le hg5 hkk.size;have hgf8:=yaa Bgf.out;clear hk9 ka ba bg1 hkk hg1 H1 HLj Hatj HSz Ht5 Hg5 hgt5 hg5 hgq;by_cases hn1:n1<0
    ·have Hno:=jX (yfj hlt (by rw [Hst.out,decide_eq_true hn1];rfl))
     go_upto_region 9 with (fail)
     refine yad (S:=fun u=>Below w8.heap.size w8 u) 27 (by kernel_rfl) (by kernel_rfl) (fun _ _ d _ _ h=>by cases d<;>exact h) ?_;have hS0:=(Keep.drew [] w8).bz;generalize World.drew w8=u9 at *;refine tV 0 hS0 (fun _ _=>?_);go_simp;go_step;refine tV 1 hS0 (fun _ _=>?_);go_simp;go_step;refine tV 2 hS0 (fun _ _=>?_);go_simp;go_step;refine jG (v:=.agg T) 3 hS0 (fun w hw=>yai _ _ ⟨gt',q,none⟩ _ rfl rfl (HLt.out _ ((hw.block gt' hgt8).trans Ht8.out))) (fun _ _=>?_);go_simp;go_step;refine jG (v:=.agg BF) 4 hS0 (fun w hw=>yai _ _ ⟨gf,0,none⟩ _ rfl rfl (HLh.out _ _ ((hw.block gf hgf8).trans Bgf.out))) (fun _ _=>?_);go_simp;go_step;refine tV 5 hS0 (fun _ _=>?_);go_simp;go_step;refine tV 6 hS0 (fun _ _=>?_);go_simp;go_step;refine tV 7 hS0 (fun _ _=>?_);go_simp;go_step;refine tV 8 hS0 (fun _ _=>?_);go_simp;go_step;refine jG (v:=.agg (rC x.s.a)) 9 hS0 (fun w hw=>yai _ _ ⟨g',p+5,none⟩ _ rfl rfl ((Hat.out.keep ((hw.block g' hg8).trans Hg8.out)).la)) (fun _ _=>?_);go_simp;go_step;refine uQ 10 54 #[.agg BF,.agg (rC x.s.a)] hS0 (H2.out _) (fun ua hS0 _ _ _=>?_);go_simp;go_step;refine uQ 11 81 #[.agg T,.agg LO] hS0 (H4.out _) (fun ub hS0 _ _ _=>?_);go_simp;go_step;refine tV 12 hS0 (fun _ _=>?_);go_simp;go_step;refine tV 13 hS0 (fun _ _=>?_);go_simp;go_step;refine tS 14 hS0 (fun _ _=>?_);go_simp;go_step;refine tS 15 hS0 (fun _ _=>?_);go_simp;go_step;refine tS 16 hS0 (fun _ _=>?_);go_simp;go_step;refine tS 17 hS0 (fun _ _=>?_);go_simp;go_step;refine tS 18 hS0 (fun _ _=>?_);go_simp;go_step;refine tS 19 hS0 (fun _ _=>?_);go_simp;go_step;refine tS 20 hS0 (fun _ _=>?_);go_simp;go_step;refine tS 21 hS0 (fun _ _=>?_);go_simp;go_step;refine tS 22 hS0 (fun _ _=>?_);go_simp;go_step;refine tS 23 hS0 (fun _ _=>?_);go_simp;go_step;refine tS 24 hS0 (fun _ _=>?_);go_simp;go_step;refine tS 25 hS0 (fun _ _=>?_);go_simp;go_step;refine tS 26 hS0 (fun _ _=>?_);go_simp;go_step;refine ⟨by kernel_rfl,?_⟩;simp only [List.drop_succ_cons,List.drop_zero];have HX:=jX (HX.out.trans (Below.mono hS0 HX.out.size));clear hS0;go_wp2_with fail;go_ret
     exact ⟨by rw [Hno.out];rfl,HX.out⟩
    rw [decide_eq_false hn1,Bool.not_false,Bool.true_and] at Hst;go_upto_region 9 with (fail)
    refine yad (S:=fun u=>Below w8.heap.size w8 u) 27 (by kernel_rfl) (by kernel_rfl) (fun _ _ d _ _ h=>by cases d<;>exact h) ?_;have hS0:=(Keep.drew [] w8).bz;generalize World.drew w8=u9 at *;refine tV 0 hS0 (fun _ _=>?_);go_simp;go_step;refine tV 1 hS0 (fun _ _=>?_);go_simp;go_step;refine tV 2 hS0 (fun _ _=>?_);go_simp;go_step;refine jG (v:=.agg T) 3 hS0 (fun w hw=>yai _ _ ⟨gt',q,none⟩ _ rfl rfl (HLt.out _ ((hw.block gt' hgt8).trans Ht8.out))) (fun _ _=>?_);go_simp;go_step;refine jG (v:=.agg BF) 4 hS0 (fun w hw=>yai _ _ ⟨gf,0,none⟩ _ rfl rfl (HLh.out _ _ ((hw.block gf hgf8).trans Bgf.out))) (fun _ _=>?_);go_simp;go_step;refine tV 5 hS0 (fun _ _=>?_);go_simp;go_step;refine tV 6 hS0 (fun _ _=>?_);go_simp;go_step;refine tV 7 hS0 (fun _ _=>?_);go_simp;go_step;refine tV 8 hS0 (fun _ _=>?_);go_simp;go_step;refine jG (v:=.agg (rC x.s.a)) 9 hS0 (fun w hw=>yai _ _ ⟨g',p+5,none⟩ _ rfl rfl ((Hat.out.keep ((hw.block g' hg8).trans Hg8.out)).la)) (fun _ _=>?_);go_simp;go_step;refine uQ 10 54 #[.agg BF,.agg (rC x.s.a)] hS0 (H2.out _) (fun ua hS0 _ _ _=>?_);go_simp;go_step;refine uQ 11 81 #[.agg T,.agg LO] hS0 (H4.out _) (fun ub hS0 _ _ _=>?_);go_simp;go_step;refine tV 12 hS0 (fun _ _=>?_);go_simp;go_step;refine tV 13 hS0 (fun _ _=>?_);go_simp;go_step;refine tV 14 hS0 (fun _ _=>?_);go_simp;go_step;refine tV 15 hS0 (fun _ _=>?_);go_simp;go_step;refine tV 16 hS0 (fun _ _=>?_);go_simp;go_step;refine jG (v:=.agg T) 17 hS0 (fun w hw=>yai _ _ ⟨gt',q,none⟩ _ rfl rfl (HLt.out _ ((hw.block gt' hgt8).trans Ht8.out))) (fun _ _=>?_);go_simp;go_step;refine jG (v:=.agg BF) 18 hS0 (fun w hw=>yai _ _ ⟨gf,0,none⟩ _ rfl rfl (HLh.out _ _ ((hw.block gf hgf8).trans Bgf.out))) (fun _ _=>?_);go_simp;go_step;refine tV 19 hS0 (fun _ _=>?_);go_simp;go_step;refine tV 20 hS0 (fun _ _=>?_);go_simp;go_step;refine tV 21 hS0 (fun _ _=>?_);go_simp;go_step;refine tV 22 hS0 (fun _ _=>?_);go_simp;go_step;refine jG (v:=.agg (rC x.s.b)) 23 hS0 (fun w hw=>yai _ _ ⟨g',p+9,none⟩ _ rfl rfl ((Hat.out.keep ((hw.block g' hg8).trans Hg8.out)).lb)) (fun _ _=>?_);go_simp;go_step;refine uQ 24 54 #[.agg BF,.agg (rC x.s.b)] hS0 (H3.out _) (fun uc hS0 _ _ _=>?_);go_simp;go_step;refine uQ 25 81 #[.agg T,.agg HI] hS0 (H5.out _) (fun ud hS0 _ _ _=>?_);go_simp;go_step;by_cases hn2:0<n2
    ·skip
     refine tV 26 hS0 (fun _ _=>?_);go_simp;go_step;refine ⟨by kernel_rfl,?_⟩;simp only [List.drop_succ_cons,List.drop_zero];have Hno:=jX (yfj hlt (by rw [Hst.out,decide_eq_true hn2];rfl));have HX:=jX (HX.out.trans (Below.mono hS0 HX.out.size));clear hS0;go_wp2_with fail;go_ret
     exact ⟨by rw [Hno.out];rfl,HX.out⟩
    rw [decide_eq_false hn2,Bool.not_false] at Hst;refine tV 26 hS0 (fun _ _=>?_);go_simp;go_step;refine ⟨by kernel_rfl,?_⟩;simp only [List.drop_succ_cons,List.drop_zero];have HX:=jX (HX.out.trans (Below.mono hS0 HX.out.size));clear hS0;go_wp2_with fail;go_roundw
    case rel=>exact ⟨k+1,by omega,congrArg (Value.int .i64) (by omega),HX.out,fun i hi=>by
     by_cases h:i<k
     ·exact HF.out i h
     rw [show i=k by omega];exact Hst.out⟩
    case measure=>simp [intOf];omega
  have hkn:k=svs.length:=by omega
  have hkc:¬ ((k:Int)<(svs.length:Int)):=by omega
  have Hy:=jX (ygy (s:=sAt (stS svs)) (t:=tAt ts) (n:=svs.length) (fun i hi=>HF.out i (by omega)));clear HF hkn;go_wp2_with fail;go_ret
  exact ⟨by rw [Hy.out];rfl,HX.out⟩
end
end Go.Proofs.YtpgffjjpiafhpaaGreatDoor
