/- Parts of a proof: Fy Fz Bo Ea Ed Hq Eh Ei El. -/
import Derived.IntWalk
import Derived.Test.YtpgffjjpiafhpaaGreatDoorS40
import Derived.Test.YtpgffjjpiafhpaaGreatDoorS15
import Derived.Test.YtpgffjjpiafhpaaGreatDoorS37
import Derived.Test.YtpgffjjpiafhpaaGreatDoorS39
import Derived.Test.YtpgffjjpiafhpaaGreatDoorS16
import Derived.Test.YtpgffjjpiafhpaaGreatDoorS19
import Derived.Test.YtpgffjjpiafhpaaGreatDoorS26
set_option linter.unusedVariables false
set_option linter.unusedSimpArgs false
set_option maxRecDepth 100000
set_option maxHeartbeats 8000000
namespace Go.Proofs.YtpgffjjpiafhpaaGreatDoor
open Go.RowKit Tryz
section
open Classical
def RPost (w:World) (n:Nat) (F:Nat→List (Iv K)) (e:Ending) (w':World):Prop:=∃ g c,e = .returned (.tuple #[.slice (some ⟨g,0,none⟩) n c,.int .i64 0])∧RowL w' (.slice (some ⟨g,0,none⟩) n c) n F∧Below w.heap.size w w'
theorem LivP.row {w:World} {n:Nat} {F:Nat→List (Iv K)} {f:Nat} {args:Array Value} (h:Calls prog f args w (LivP w n F)):Calls prog f args w (RPost w n F) :=
 h.mono fun e w' ⟨g,vs,he,hb,_,ho,hn,hF⟩=>by
  have:=ho.rowL hF n;rw [hn] at this;exact ⟨g,n,he,this,hb⟩
def DPost (w:World) (n:Nat) (F:Nat→List (Iv K)) (e:Ending) (w':World):Prop:=∃ g c,e = .returned (.slice (some ⟨g,0,none⟩) n c)∧RowL w' (.slice (some ⟨g,0,none⟩) n c) n F∧Below w.heap.size w w'
theorem LivT.row {w:World} {n:Nat} {F:Nat→List (Iv K)} {f:Nat} {args:Array Value} (h:Calls prog f args w (LivT w n F)):Calls prog f args w (DPost w n F) :=
 h.mono fun e w' ⟨g,c,vs,he,hb,_,ho,hn,hF⟩=>by
  have:=ho.rowL hF c;rw [hn] at this;exact ⟨g,c,he,this,hb⟩
theorem RowL.get {w:World} {g n c:Nat} {F:Nat→List (Iv K)} (h:RowL w (.slice (some ⟨g,0,none⟩) n c) n F) {i:Nat} (hi:i<n):g<w.heap.size∧∃ a d,w.cell? ⟨g,i,none⟩=some (.slice a (F i).length d)∧Ls w [(.slice a (F i).length d,F i)]:=by
 obtain⟨g',c',e,h2,h3⟩:=h;injection e with e _ _;injection e with e;injection e with e _ _;subst e;exact ⟨h2,h3 i hi⟩
end
section
open Classical
theorem half_nn {n:Int} (h:0≤n):0≤half n:=by
 have h1:=ygm n;have h2:=(yaL (a:=0) (b:=n)).2 h;rw [show ((0:Int):Rat)=0 from rfl] at h2
 grind
theorem evS_pos (i:Nat) (e:EvA):0≤(evS i e).g∧(evS i e).a≤(evS i e).b:=by
 unfold evS;dsimp only;refine ⟨half_nn (by omega),?_⟩;have h:=half_nn (n:=((e.r % 12:Nat):Int)) (by omega);split
 ·exact Rat.le_refl
 grind
theorem yjF (l:List EvA):Good (yba l):=by
 refine ⟨yjG l,by rw [ydl];omega,fun s hs=>?_,fun h=>?_⟩
 ·obtain⟨i,e,rfl⟩:=ydr hs
  exact evS_pos i e
 have h1:(yba l)[0]=evS 0 ((l.take 4)[0]'(by have:=h;unfold yba at this;rw [List.length_mapIdx] at this;exact this)):=List.getElem_mapIdx ..;rw [h1];exact ⟨rfl,rfl⟩
def SPost (l:List EvA) (w:World) (e:Ending) (w':World):Prop:=∃ a c svs,e = .returned (.slice a svs.length c)∧StR w' (.slice a svs.length c) svs∧Good (stS svs)∧stS svs=yba l∧svs.length=min 4 l.length∧Below w.heap.size w w'
theorem Steps_s (l:List EvA) (w:World) (sv:Value) (hr:EvsAt w sv l):Calls prog 38 #[sv] w (SPost l w) :=
 (Steps_c l w sv hr).mono fun e w' ⟨v,svs,he,hs,hst,hb⟩=>by
  obtain⟨a,c,rfl⟩:=hs.form;have hl:svs.length=min 4 l.length:=by rw [← ydl,← hst];unfold stS;rw [List.length_map]
  exact ⟨a,c,svs,he,hs,by rw [hst];exact yjF l,hst,hl,hb⟩
end
section
open Classical
theorem Ht.scale {m l b:Nat} {x:Qn} (h:Ht (m:Rat) (l:Rat) (b:Rat) x) (c d:Nat):Ht ((m*c:Nat):Rat) ((l*d:Nat):Rat) (b:Rat) x:=by
 obtain⟨i,hi⟩:=h.m;obtain⟨j,hj⟩:=h.l;refine ⟨h.ok,⟨i*c,?_⟩,⟨j*d,?_⟩,h.lo,h.hi,h.rt⟩
 ·rw [Rat.natCast_mul,← Rat.mul_assoc,hi,yal,Rat.intCast_natCast]
 rw [Rat.natCast_mul,← Rat.mul_assoc,hj,yal,Rat.intCast_natCast]
theorem nc_le {a b:Nat} (h:a≤b):(a:Rat)≤(b:Rat):=by
 have:=(yaL (a:=(a:Int)) (b:=(b:Int))).2 (by omega);rw [Rat.intCast_natCast,Rat.intCast_natCast] at this;exact this
theorem yhC (a:Nat):(0:Rat)≤(a:Rat):=by
 have:=nc_le (Nat.zero_le a);exact this
theorem ydV {a b:Rat} (h0:0≤a) (h:a≤b):a*a≤b*b:=by
 have h1:=Rat.mul_le_mul_of_nonneg_left h h0;have h2:=Rat.mul_le_mul_of_nonneg_right h (show 0≤b by grind)
 grind
theorem Ht.bd {m l:Rat} {b b':Nat} {x:Qn} (h:Ht m l (b:Rat) x) (hb:b≤b'):Ht m l (b':Rat) x:=by
 have h1:=nc_le hb;have h0:=yhC b;have h2:=ydV h0 h1;have hlo:=h.lo;have hhi:=h.hi;have hrt:=h.rt;exact ⟨h.ok,h.m,h.l,by grind,by grind,by grind⟩
def Hq (c:Nat) (q:Rat):Prop:=(∃ i:Int,q*((2:Nat):Rat)=i) ∧ -(c:Rat)≤q∧q≤(c:Rat)
theorem Hq.neg {c:Nat} {q:Rat} (h:Hq c q):Hq c (-q):=by
 obtain⟨⟨i,hi⟩,h1,h2⟩:=h;refine ⟨⟨-i,?_⟩,by grind,by grind⟩;rw [Rat.intCast_neg,← hi,Rat.neg_mul]
theorem Hq.add {c d:Nat} {q r:Rat} (h:Hq c q) (k:Hq d r):Hq (c+d) (q+r):=by
 obtain⟨⟨i,hi⟩,h1,h2⟩:=h;obtain⟨⟨j,hj⟩,k1,k2⟩:=k;refine ⟨⟨i+j,?_⟩,?_,?_⟩
 ·rw [Rat.intCast_add,← hi,← hj,Rat.add_mul]
 ·rw [Rat.natCast_add];grind
 rw [Rat.natCast_add];grind
theorem Hq.mono {c d:Nat} {q:Rat} (h:Hq c q) (k:c≤d):Hq d q:=by
 have:=nc_le k;exact ⟨h.1,by have:=h.2.1;grind,by have:=h.2.2;grind⟩
theorem Hq.half {n:Int} {c:Nat} (h1 : -(2*(c:Int))≤n) (h2:n≤2*(c:Int)):Hq c (half n):=by
 have e:=ygm n;have a1:=(yaL (a:=-(2*(c:Int))) (b:=n)).2 h1;have a2:=(yaL (a:=n) (b:=2*(c:Int))).2 h2;rw [Rat.intCast_neg,yal,Rat.intCast_natCast] at a1;rw [yal,Rat.intCast_natCast] at a2;have e2:((2:Int):Rat)=2:=rfl;rw [e2] at a1 a2;refine ⟨⟨n,e⟩,?_,?_⟩
 ·grind
 grind
theorem Hq.zero (c:Nat):Hq c 0:=⟨⟨0,by rw [Rat.zero_mul];rfl⟩,by have:=yhC c;grind,yhC c⟩
theorem Ht.mv {m l:Nat} {b c:Nat} {x:Qn} {q:Rat} (h:Ht (m:Rat) (l:Rat) (b:Rat) x) (k:Hq c q):Ht ((m*2:Nat):Rat) (l:Rat) ((b+c:Nat):Rat) (mvQ x q):=by
 obtain⟨⟨i,hi⟩,k1,k2⟩:=k;obtain⟨j,hj⟩:=h.m;have h1:=h.lo;have h2:=h.hi;have h3:=h.rt;have h4:=ydV (yhC b) (nc_le (show b≤b+c by omega))
 refine ⟨mvQ_ok h.ok q,⟨j*2+i*m,?_⟩,h.l,?_,?_,?_⟩
 ·show (x.p+q)*_=_
  rw [Rat.add_mul,Rat.natCast_mul,← Rat.mul_assoc,hj,Rat.intCast_add,yal,yal,Rat.mul_comm (m:Rat),← Rat.mul_assoc,hi,Rat.intCast_natCast];rfl
 ·show -_≤x.p+q
  rw [Rat.natCast_add];grind
 ·show x.p+q≤_
  rw [Rat.natCast_add];grind
 show x.r≤_
 exact Rat.le_trans h3 h4
theorem Ht.mv1 {l:Nat} {b c:Nat} {x:Qn} {q:Rat} (h:Ht ((2:Nat):Rat) (l:Rat) (b:Rat) x) (k:Hq c q):Ht ((2:Nat):Rat) (l:Rat) ((b+c:Nat):Rat) (mvQ x q):=by
 have h9:=h.mv k;obtain⟨⟨i,hi⟩,k1,k2⟩:=k;obtain⟨j,hj⟩:=h.m;refine ⟨h9.ok,⟨j+i,?_⟩,h9.l,h9.lo,h9.hi,h9.rt⟩;show (x.p+q)*_=_
 rw [Rat.add_mul,hj,hi,Rat.intCast_add]
def H2 (b:Nat) (x:K):Prop:=Ht ((2:Nat):Rat) ((1:Nat):Rat) (b:Rat) x.1
def HI (b:Nat) (l:List (Iv K)):Prop:=∀ i∈l,H2 b i.f.pt∧H2 b i.l.pt
theorem HI.mono {b c:Nat} {l:List (Iv K)} (h:HI b l) (k:b≤c):HI c l:=fun i hi=>⟨(h i hi).1.bd k,(h i hi).2.bd k⟩
theorem yeU {P:K→Prop} {op:Int} {a b:List (Iv K)} (ha:∀ i∈a,P i.f.pt∧P i.l.pt) (hb:∀ i∈b,P i.f.pt∧P i.l.pt):∀ i∈combK op a b,P i.f.pt∧P i.l.pt:=fun i hi=>by
 have hp:=ycH (op:=op) (PtsIn.self (a++b) |>.sub fun i hi=>List.mem_append_left _ hi) (PtsIn.self (a++b) |>.sub fun i hi=>List.mem_append_right _ hi) i hi
 have hs:∀ x∈ptsL (a++b),P x:=fun x hx=>by
  obtain⟨j,hj,h⟩:=ycj.1 hx
  have hj:P j.f.pt∧P j.l.pt:=by
   rcases List.mem_append.1 hj with hj|hj
   ·exact ha j hj
   exact hb j hj
  rcases h with rfl|rfl
  ·exact hj.1
  exact hj.2
 exact ⟨hs _ hp.1,hs _ hp.2⟩
theorem HI.comb {b:Nat} {op:Int} {l m:List (Iv K)} (h:HI b l) (k:HI b m):HI b (combK op l m):=yeU h k
theorem HI.norm {b:Nat} {l:List (Iv K)} (h:HI b l):HI b (normK l):=yeU h (by simp)
theorem H2.mv {b c k:Nat} {x:K} {q:Rat} (h:H2 b x) (hq:Hq c q) (hs:Sm k x) (hk:k≤90000) (hf:FitQ 24 q):H2 (b+c) (mvK q x):=by
 unfold H2;rw [yaS hs hk hf];exact Ht.mv1 h hq
theorem HI.ero {b c k:Nat} {l:List (Iv K)} {q:Rat} (h:HI b l) (hq:Hq c q) (hs:∀ i∈l,SmI k i) (hk:k≤90000) (hf:FitQ 24 q):HI (b+c) (eroK q l):=by
 refine HI.norm fun i hi=>?_;obtain⟨⟨j,hj,rfl⟩,_⟩:=ydP.1 hi;exact ⟨(h j hj).1.bd (by omega),(h j hj).2.mv hq.neg (hs j hj).2 hk hf.neg⟩
theorem HI.swp {b c k:Nat} {l:List (Iv K)} {p q:Rat} (h:HI b l) (hp:Hq c p) (hq:Hq c q) (hs:∀ i∈l,SmI k i) (hk:k≤90000) (fp:FitQ 24 p) (fq:FitQ 24 q):HI (b+c) (swpK p q l):=by
 refine HI.norm fun i hi=>?_;obtain⟨j,hj,rfl⟩:=List.mem_map.1 hi;exact ⟨(h j hj).1.mv hp (hs j hj).1 hk fp,(h j hj).2.mv hq (hs j hj).2 hk fq⟩
theorem HI.mv {b c k:Nat} {l:List (Iv K)} {q:Rat} (h:HI b l) (hq:Hq c q) (hs:∀ i∈l,SmI k i) (hk:k≤90000) (hf:FitQ 24 q):HI (b+c) (l.map (mvI q)):=fun i hi=>by
 obtain⟨j,hj,rfl⟩:=List.mem_map.1 hi;exact ⟨(h j hj).1.mv hq (hs j hj).1 hk hf,(h j hj).2.mv hq (hs j hj).2 hk hf⟩
structure Hs (s:St):Prop where
 d:HI 64 s.d
 g:Hq 8 s.g
 a:Hq 8 s.a
 b:Hq 16 s.b
section
variable {s:Nat→St} (h:StOk s) (hh:∀ i,Hs (s i))
include h hh
theorem rch_hi:∀ i,i≤4→HI (72+24*i) (rchS s i)
 | 0,_=>(hh 0).d.ero (hh 0).g (h.sm 0) (by omega) (yaX (h.g 0))
 | i+1,hi=>by
  refine HI.comb (((hh (i+1)).d.ero (hh (i+1)).g (h.sm (i+1)) (by omega) (yaX (h.g (i+1)))).mono (by omega)) ?_;have h1:=(rch_hi i (by omega)).mv (hh i).g (rch_sm h i (by omega)) (by omega) (yaX (h.g i))
  have h2:=h1.swp ((hh (i+1)).a.mono (show 8≤16 by omega)) (hh (i+1)).b (k:=53+50*i+25) (fun j hj=>by
   obtain⟨j',hj',rfl⟩:=List.mem_map.1 hj
   exact mvI_sm (rch_sm h i (by omega) j' hj') (by omega) (yaX (h.g i))) (by omega) (yaX (h.a (i+1))) (yaX (h.b (i+1)))
  exact h2.mono (by omega)
theorem liv_hi {n:Nat} (hn:n≤4):∀ j,j≤4→HI (168+24*j) (livS s n j)
 | 0,_=>(rch_hi h hh (n-1) (by omega)).mono (by omega)
 | j+1,hj=>by
  refine HI.comb ((rch_hi h hh (n-2-j) (by omega)).mono (by omega)) ?_;have:=(liv_hi hn j (by omega)).swp ((hh (n-2-j+1)).b.add (hh (n-2-j)).g).neg (((hh (n-2-j+1)).a.add (hh (n-2-j)).g).mono (show 8+8≤16+8 by omega)).neg (ygI h hn j (by omega)) (by omega) (ybU (h.b (n-2-j+1)) (h.g (n-2-j))).neg (ybU (h.a (n-2-j+1)) (h.g (n-2-j))).neg
  exact this.mono (by omega)
theorem ydE {n:Nat} (hn:n≤4) (i:Nat):HI 512 (livAt s n i):=(liv_hi h hh hn (n-1-i) (by omega)).mono (by omega)
end
theorem lo_h2 (p:PartA):H2 64 (loK p):=by
 have h:=Hq.half (n:=((p.a % 64:Nat):Int)) (c:=64) (by omega) (by omega);refine ⟨(loK p).2.1,h.1,⟨0,?_⟩,h.2.1,h.2.2,?_⟩
 ·show (0:Rat)*_=_
  rw [Rat.zero_mul];rfl
 show (0:Rat)≤_
 have:=ydV (Rat.le_refl (a:=0)) (yhC 64);rwa [Rat.zero_mul] at this
theorem hi_h2 (o:Nat) (p:PartA):H2 64 (hiK o p):=by
 have ha:=Hq.half (n:=((p.a % 64:Nat):Int)) (c:=32) (by omega) (by omega);have hb:=Hq.half (n:=((p.b % 16:Nat):Int)) (c:=32) (by omega) (by omega)
 have h64:(((p.b % 16:Nat):Int)*((p.b % 16:Nat):Int)*2:Int)≤(64*64:Nat):=by
  have h1:((p.b % 16:Nat):Int)≤15:=by omega
  have h0:(0:Int)≤((p.b % 16:Nat):Int):=by omega
  have:=Int.mul_le_mul h1 h1 h0 (by omega);omega
 have hok:=(hiK o p).2.1;unfold H2;have hv:(hiK o p).1=hiQ o p:=rfl;rw [hv] at hok ⊢;unfold hiQ at *;split
 ·rename_i h
  rw [if_pos h] at hok;have h:=ha.mono (show 32≤64 by omega)
  refine ⟨hok,h.1,⟨((p.b % 16:Nat):Int)*((p.b % 16:Nat):Int)*2,?_⟩,h.2.1,h.2.2,?_⟩
  ·dsimp only
   rw [yal,yal];exact Rat.mul_one _
  dsimp only;have:=yaL.2 h64;have e:((64:Nat):Rat)*((64:Nat):Rat)=(((64*64:Nat):Int):Rat):=by rw [← Rat.natCast_mul,Rat.intCast_natCast]
  rw [e];rw [yal,yal] at this;exact this
 rename_i h;rw [if_neg h] at hok;have h:=ha.add hb;refine ⟨hok,h.1,⟨0,?_⟩,h.2.1,h.2.2,?_⟩
 ·show (0:Rat)*_=_
  rw [Rat.zero_mul];rfl
 show (0:Rat)≤_
 have:=ydV (Rat.le_refl (a:=0)) (yhC 64);rwa [Rat.zero_mul] at this
theorem evD_hi (e:EvA):HI 64 (evD e):=by
 refine HI.norm fun i hi=>?_;obtain⟨p,_,rfl⟩:=List.mem_map.1 hi;unfold ycl;split
 ·exact ⟨lo_h2 p,lo_h2 p⟩
 exact ⟨lo_h2 p,hi_h2 _ p⟩
theorem evS_hs (i:Nat) (e:EvA):Hs (evS i e):=by
 have hg:=Hq.half (n:=((e.g % 8:Nat):Int)) (c:=8) (by omega) (by omega);have ha:=Hq.half (n:=((e.w % 12:Nat):Int)-4) (c:=8) (by omega) (by omega);have hr:=Hq.half (n:=((e.r % 12:Nat):Int)) (c:=8) (by omega) (by omega);refine ⟨evD_hi e,hg,?_,?_⟩
 ·show Hq 8 (if i=0 then 0 else _)
  split
  ·exact Hq.zero 8
  exact ha
 show Hq 16 (if i=0 then 0 else _)
 split
 ·exact Hq.zero 16
 exact ha.add hr
theorem steps_hs (l:List EvA) (i:Nat):Hs (sAt (yba l) i):=by
 unfold sAt;rw [List.getD_eq_getElem?_getD];cases h:(yba l)[i]? with
 | none=>exact ⟨(by intro j hj;cases hj),Hq.zero _,Hq.zero _,Hq.zero _⟩
 | some s =>
  obtain⟨j,e,rfl⟩:=ydr (List.mem_of_getElem? h);exact evS_hs j e
def Hb (a:Nat) (x:K):Prop:=∃ m l:Nat,0<m∧0<l∧m≤2 ^ a∧l≤2 ^ 64∧Ht (m:Rat) (l:Rat) ((2 ^ a:Nat):Rat) x.1
theorem Hb.sm {a:Nat} {x:K} (h:Hb a x):Sm (a+17) x:=by
 obtain⟨m,l,m0,l0,hm,hl,h⟩:=h;refine (h.form m0 l0 (Nat.pow_pos (by decide))).fit ?_;have h2:m*m≤2 ^ a*2 ^ a:=Nat.mul_le_mul hm hm;have h1:2*(l*(m*m)*(2 ^ a*2 ^ a))≤2*(2 ^ 64*(2 ^ a*2 ^ a)*(2 ^ a*2 ^ a)):=Nat.mul_le_mul_left 2 (Nat.mul_le_mul_right _ (Nat.mul_le_mul hl h2))
 have e1:2*(2 ^ 64*(2 ^ a*2 ^ a)*(2 ^ a*2 ^ a))=2 ^ (65+4*a):=by
  rw [Nat.pow_add,Nat.mul_comm 4 a,Nat.pow_mul];generalize 2 ^ a=T;grind
 rw [e1] at h1
 have h3:8*(2*(l*(m*m)*(2 ^ a*2 ^ a))*(2*(l*(m*m)*(2 ^ a*2 ^ a))))≤2 ^ (3+((65+4*a)+(65+4*a))):=by
  rw [Nat.pow_add,Nat.pow_add];exact Nat.mul_le_mul_left 8 (Nat.mul_le_mul h1 h1)
 have h4:2 ^ (3+((65+4*a)+(65+4*a)))<256 ^ (a+17):=by
  rw [show (256:Nat)=2 ^ 8 by rfl,← Nat.pow_mul]
  exact Nat.pow_lt_pow_right (by decide) (by omega)
 have h5:=Nat.lt_of_le_of_lt h3 h4;exact Int.ofNat_lt.2 h5
theorem rat_hb {a:Nat} {q:Rat} (h:FitQ 100000 q) (hd:q.den≤2 ^ a) (hn:q.num.natAbs≤2 ^ a):Hb a (kQ q h):=by
 have hl:(1:Nat)≤2 ^ 64:=by decide
 have key : -((2 ^ a:Nat):Rat)≤q∧q≤((2 ^ a:Nat):Rat)∧(0:Rat)≤((2 ^ a:Nat):Rat)*((2 ^ a:Nat):Rat):=by
  generalize 2 ^ a=T at *;have hd:=q.den_pos;have e:=ybl q;rw [Rat.intCast_natCast] at e;have hdr:(0:Rat)<(q.den:Rat):=yaC hd
  have hT:((q.num:Int):Rat)≤((T:Nat):Rat) ∧ -((T:Nat):Rat)≤((q.num:Int):Rat):=by
   have a1:=(yaL (a:=q.num) (b:=(T:Int))).2 (by omega);have a2:=(yaL (a:=-(T:Int)) (b:=q.num)).2 (by omega);rw [Rat.intCast_natCast] at a1;rw [Rat.intCast_neg,Rat.intCast_natCast] at a2;exact ⟨a1,a2⟩
  have h1d:(1:Rat)≤(q.den:Rat):=nc_le hd;have hT0:=yhC T;have h9:=ydV (Rat.le_refl (a:=0)) hT0;rw [Rat.zero_mul] at h9;generalize ((q.num:Int):Rat)=n at *;generalize (q.den:Rat)=d at *;generalize ((T:Nat):Rat)=t at *
  have hk:t≤t*d:=by
   have:=Rat.mul_le_mul_of_nonneg_left h1d hT0;grind
  refine ⟨?_,?_,h9⟩
  ·refine Rat.not_lt.1 fun hlt=>?_
   have:=Rat.mul_lt_mul_of_pos_right hlt hdr;grind
  refine Rat.not_lt.1 fun hlt=>?_;have:=Rat.mul_lt_mul_of_pos_right hlt hdr;grind
 refine ⟨q.den,1,q.den_pos,by decide,hd,hl,(kQ q h).2.1,⟨q.num,?_⟩,⟨0,?_⟩,key.1,key.2.1,key.2.2⟩
 ·have:=ybl q
  rw [Rat.intCast_natCast] at this;exact this
 show (0:Rat)*_=_
 rw [Rat.zero_mul];rfl
theorem yit (k A m l b N:Nat) (hk:k≤90000) (hk1:1≤k) (hA:A≤700000) (hm0:0<m) (hl0:0<l) (hb0:0<b) (hmA:m≤2 ^ A) (hl:l≤2 ^ 64) (hbA:b≤2 ^ A) (I:Iv K) (hX:Ht (m:Rat) (l:Rat) (b:Rat) I.f.pt.1) (hY:Ht (m:Rat) (l:Rat) (b:Rat) I.l.pt.1)
  (hN:512*(b*b*b)*(m*m*(m*m)*(l*l))≤N) (hM:8*((2*(l*(m*m)*(b*b))*((2*b*N*N)*(2*b*N*N)))*(2*(l*(m*m)*(b*b))*((2*b*N*N)*(2*b*N*N))))<256 ^ k) (hNA:N≤2 ^ A) (hbN:2*b*N≤2 ^ A) :
  (∀ w,Calls prog 23 #[iv I] w fun e w'=>e = .returned (kv (yaT I))∧Bl w w')∧Hb A (yaT I)∧(I.f.pt<I.l.pt→I.f.pt<yaT I∧yaT I<I.l.pt):=by
 by_cases h:I.f.pt<I.l.pt
 ·obtain⟨p1,p2,p3,p4,_,_⟩:=yjc hm0 hl0 hb0 hX hY h hN
  have p3':=Nat.le_trans p3 hNA;have p4':=Nat.le_trans p4 hbN
  have hbig:2 ^ A<256 ^ (A / 8+1):=by
   rw [show (256:Nat)=2 ^ 8 by rfl,← Nat.pow_mul]
   exact Nat.pow_lt_pow_right (by decide) (by omega)
  have hq:FitQ 100000 (yfp I.f.pt.1 I.l.pt.1):=by
   refine FitQ.mono (k:=A / 8+1) ⟨?_,?_⟩ (by omega)
   ·rw [Fit_iff]
    exact Nat.lt_of_le_of_lt p4' hbig
   rw [Fit_iff,Int.natAbs_natCast];exact Nat.lt_of_le_of_lt p3' hbig
  have e:yaT I=kQ (yfp I.f.pt.1 I.l.pt.1) hq:=by
   unfold yaT;rw [dif_pos ⟨h,hq⟩]
  rw [e];refine ⟨fun w=>pick_yes I _ hq h (jX fun w=>yjH k hk hk1 m l b N hm0 hl0 hb0 _ _ hX hY h hN hM w) w,rat_hb hq p3' p4',fun _=>⟨?_,?_⟩⟩
  ·rw [K.lt_def]
   exact yez I.f.pt.2.1 p1
  rw [K.lt_def];exact yex I.l.pt.2.1 p2
 have e:yaT I=I.f.pt:=by
  unfold yaT;rw [dif_neg (fun k=>h k.1)]
 rw [e];exact ⟨fun w=>pick_no I h w,⟨m,l,hm0,hl0,hmA,hl,hX.bd hbA⟩,fun k=>absurd k h⟩
theorem pick_core (a:Nat) (ha:a≤6000) (m l:Nat) (hm0:0<m) (hl0:0<l) (hm:m≤2 ^ (a+1)) (hl:l≤2 ^ 64) (I:Iv K) (hX:Ht (m:Rat) (l:Rat) ((2 ^ (a+1):Nat):Rat) I.f.pt.1) (hY:Ht (m:Rat) (l:Rat) ((2 ^ (a+1):Nat):Rat) I.l.pt.1) :
  (∀ w,Calls prog 23 #[iv I] w fun e w'=>e = .returned (kv (yaT I))∧Bl w w')∧Hb (8*a+146) (yaT I)∧(I.f.pt<I.l.pt→I.f.pt<yaT I∧yaT I<I.l.pt):=by
 have hT0:0<2 ^ (a+1):=Nat.pow_pos (by decide);have hTA:=Nat.pow_le_pow_right (show 0<2 by decide) (show a+1≤8*a+146 by omega)
 obtain⟨T,hT⟩:∃ T,2 ^ (a+1)=T:=⟨_,rfl⟩;obtain⟨L,hL⟩:∃ L,2 ^ 64=L:=⟨_,rfl⟩;have hl':=hl;rw [hT] at hX hY hT0 hm hTA;rw [hL] at hl;have hm2:m*m≤T*T:=Nat.mul_le_mul hm hm;have hm4:m*m*(m*m)≤T*T*(T*T):=Nat.mul_le_mul hm2 hm2;have hN:512*(T*T*T)*(m*m*(m*m)*(l*l))≤512*(T*T*T)*(T*T*(T*T)*(L*L)):=Nat.mul_le_mul_left _ (Nat.mul_le_mul hm4 (Nat.mul_le_mul hl hl))
 have eN:512*(T*T*T)*(T*T*(T*T)*(L*L))=2 ^ (7*a+144):=by
  have e1:512*(T*T*T)*(T*T*(T*T)*(L*L))=2 ^ 9*T ^ 7*L ^ 2:=by grind
  rw [e1,← hT,← hL,← Nat.pow_mul,← Nat.pow_mul,← Nat.pow_add,← Nat.pow_add];refine congrArg (fun n=>2 ^ n) ?_;omega
 rw [eN] at hN;have hNA:=Nat.pow_le_pow_right (show 0<2 by decide) (show 7*a+144≤8*a+146 by omega)
 obtain⟨N,hNe⟩:∃ N,2 ^ (7*a+144)=N:=⟨_,rfl⟩;rw [hNe] at hN hNA
 have hM1:2*(l*(m*m)*(T*T))*((2*T*N*N)*(2*T*N*N))≤2 ^ (34*a+649):=by
  have e:2*(L*(T*T)*(T*T))*((2*T*N*N)*(2*T*N*N))=2 ^ (34*a+649):=by
   have e1:2*(L*(T*T)*(T*T))*((2*T*N*N)*(2*T*N*N))=2 ^ 3*L*T ^ 6*N ^ 4:=by grind
   rw [e1,← hT,← hL,← hNe,← Nat.pow_mul,← Nat.pow_mul,← Nat.pow_add,← Nat.pow_add,← Nat.pow_add];refine congrArg (fun n=>2 ^ n) ?_;omega
  rw [← e];exact Nat.mul_le_mul_right _ (Nat.mul_le_mul_left _ (Nat.mul_le_mul_right _ (Nat.mul_le_mul hl hm2)))
 have hM:8*((2*(l*(m*m)*(T*T))*((2*T*N*N)*(2*T*N*N)))*(2*(l*(m*m)*(T*T))*((2*T*N*N)*(2*T*N*N))))<256 ^ (9*a+164):=by
  refine Nat.lt_of_le_of_lt (Nat.mul_le_mul_left 8 (Nat.mul_le_mul hM1 hM1)) ?_;rw [show (256:Nat)=2 ^ 8 by rfl,← Nat.pow_mul,show (8:Nat)=2 ^ 3 by rfl,← Nat.pow_add,← Nat.pow_add]
  exact Nat.pow_lt_pow_right (by decide) (by omega)
 have e4:2*T*N=2 ^ (8*a+146):=by
  rw [← hT,← hNe,show (2:Nat)*2 ^ (a+1)=2 ^ 1*2 ^ (a+1) by rfl,← Nat.pow_add,← Nat.pow_add]
  refine congrArg (fun n=>2 ^ n) ?_;omega
 exact yit (9*a+164) (8*a+146) m l T N (by omega) (by omega) (by omega) hm0 hl0 hT0 (Nat.le_trans hm hTA) hl' hTA I hX hY hN hM hNA (Nat.le_of_eq e4)
theorem ygX {I:Iv K} (hv:I.f<I.l) (h:I.f.pt<I.l.pt→I.f.pt<yaT I∧yaT I<I.l.pt):I.f≤⟨yaT I,false⟩∧(⟨yaT I,true⟩:Bd K)≤I.l:=by
 by_cases hl:I.f.pt<I.l.pt
 ·exact ⟨.inl (h hl).1,.inl (h hl).2⟩
 have e:yaT I=I.f.pt:=by
  unfold yaT;rw [dif_neg (fun k=>hl k.1)]
 rw [Bd.lt_def] at hv;rcases hv with hv|⟨h1,h2,h3⟩
 ·exact absurd hv hl
 rw [e];exact ⟨.inr ⟨rfl,fun k=>by rw [h2] at k;cases k⟩,.inr ⟨h1,fun _=>h3⟩⟩
end
section
open Classical
open Go.ChangeShapes Go.WideShapes Go.ChangeAt
structure RawF where
 a1:Bool
 a2:ByteArray
 a3:Bool
 a4:ByteArray
end
section
open Classical
open Go.ChangeShapes Go.WideShapes Go.ChangeAt
def two (x y:RawF):Array Value:=#[.bool x.a1,.string x.a2,.bool x.a3,.string x.a4,.bool y.a1,.string y.a2,.bool y.a3,.string y.a4]
end
section
open Classical
end
section
open Classical
end
section
open Classical
end
section
open Classical
noncomputable def tAt (l:List K) (i:Nat):K:=l.getD i (kQ 0 (fitq0.mono (by decide)))
theorem yfq {l:List K} {k:Nat} (h:k<l.length):tAt l k=l[k]:=by
 unfold tAt;rw [List.getD_eq_getElem?_getD,List.getElem?_eq_getElem h];rfl
noncomputable def hstp (s:Nat→St) (t:Nat→K) (i:Nat):Bool :=
 decide (combK 3 [(⟨⟨t i,false⟩,⟨mvK (s i).g (t i),true⟩⟩:Iv K)] (s i).d=[])&&(decide (i=0) || (decide (mvK (s i).a (mvK (s (i-1)).g (t (i-1)))≤t i)&&decide (t i≤mvK (s i).b (mvK (s (i-1)).g (t (i-1))))))
noncomputable def hall (s:Nat→St) (t:Nat→K) (n:Nat):Bool:=decide (∀ i,i<n→hstp s t i=true)
theorem yfj {s:Nat→St} {t:Nat→K} {n k:Nat} (hk:k<n) (h:hstp s t k=false):hall s t n=false:=decide_eq_false fun hh=>by rw [hh k hk] at h;cases h
theorem ygy {s:Nat→St} {t:Nat→K} {n:Nat} (h:∀ i,i<n→hstp s t i=true):hall s t n=true:=decide_eq_true h
theorem holds_one (a b t:K):holds [(⟨⟨a,false⟩,⟨b,true⟩⟩:Iv K)] t=(decide (a≤t)&&decide (t≤b)):=by
 unfold holds;rw [List.any_cons,List.any_nil,Bool.or_false,Bd.le_def,Bd.le_def,Bool.eq_iff_iff];simp only [decide_eq_true_eq,Bool.and_eq_true];grind
theorem yiB {lo hi:K} (h:lo≤hi) (u:World):∃ u2 g,u.alloc (.cells (iC ⟨⟨lo,false⟩,⟨hi,true⟩⟩) 32)=u2∧u.heap.size=g∧Keep [] u u2∧Ls u2 [(.slice (some ⟨g,0,none⟩) 1 1,[(⟨⟨lo,false⟩,⟨hi,true⟩⟩:Iv K)])]:=by
 have hn:Norm [(⟨⟨lo,false⟩,⟨hi,true⟩⟩:Iv K)]:=by
  refine ⟨?_,trivial⟩;rw [Bd.lt_def];by_cases he:lo=hi
  ·exact .inr ⟨he,rfl,rfl⟩
  exact .inl (by grind)
 obtain⟨u2,g,e1,e2,_,k,hx⟩:=IvR.single (⟨⟨lo,false⟩,⟨hi,true⟩⟩:Iv K) u;exact ⟨u2,g,e1,e2,k,(Ls.nil _).cons hx hn (by simp)⟩
theorem mv_le {k:Nat} {t:K} {a b:Rat} (ht:Sm k t) (hk:k≤90000) (ha:FitQ 24 a) (hb:FitQ 24 b) (h:a≤b):mvK a t≤mvK b t:=by
 rw [K.le_def,yaS ht (by omega) ha,yaS ht (by omega) hb];exact fun hlt=>ygd t.2.1.nn h hlt
theorem mv_ge {k:Nat} {t:K} {a:Rat} (ht:Sm k t) (hk:k≤90000) (ha:FitQ 24 a) (h:0≤a):t≤mvK a t:=by
 rw [K.le_def,yaS ht (by omega) ha];exact fun hlt=>mvQ_le t.2.1.nn h hlt
def OnP (w:World) (lo hi:K) (e:Ending) (w':World):Prop:=∃ g,e = .returned (.slice (some ⟨g,0,none⟩) 1 1)∧Below w.heap.size w w'∧Ls w' [(.slice (some ⟨g,0,none⟩) 1 1,[(⟨⟨lo,false⟩,⟨hi,true⟩⟩:Iv K)])]
theorem yiQ (k:Nat) (hk:k≤80000) (t:K) (ht:Sm k t) (a b:Rat) (ha:FitQ 24 a) (hb:FitQ 24 b) (hab:a≤b) (w:World) :
  Calls prog 119 #[.agg (kC t),.agg (rC a),.agg (rC b)] w (OnP w (mvK a t) (mvK b t)):=by
 have H1:=jX (ybM ht (by omega) ha);have H2:=jX (ybM ht (by omega) hb);have HLi:=jX (fun u=>yiB (mv_le ht (by omega) ha hb hab) u);have HLr:=jX (fun (u:World) (g:Nat) (h:u.heap[g]? = some (.cells (kC t) 30))=>show (loadVar 30 ⟨g,0,none⟩).run prog u = .ok (.agg (kC t)) u from yar _ _ _ _ (yen h))
 have HBd:=jX (yel (mvK a t) (mvK b t));rw [show kv (mvK a t) = .agg (kC (mvK a t)) from rfl,show kv (mvK b t) = .agg (kC (mvK b t)) from rfl] at HBd
 clear ht ha hb hab;generalize mvK a t=lo at *;generalize mvK b t=hi at *;have HE:=jX (rfl:OnP w lo hi=OnP w lo hi);obtain⟨I,hI⟩:∃ I:Iv K,(⟨⟨lo,false⟩,⟨hi,true⟩⟩:Iv K)=I:=⟨_,rfl⟩;unfold OnP;rw [hI] at HBd HLi ⊢;clear hI HE;generalize kC t=T at *;generalize kC lo=TL at *;generalize kC hi=TH at *;go_enter func119,ntmps119
 go_upto_region 1 with (fail)
 obtain⟨W,ga,gb,gc,hW,ega,egb,egc,Bga,Bgb,Bgc,hga,hgb,hgc,hgW,HkW⟩:=al3h w (.cells T 30) (.cells (rC a) 28) (.cells (rC b) 28);rw [← hW];try rw [egc]
 try rw [egb]
 try rw [ega]
 clear hW ega egb egc;have hga:=yaa Bga.out;have hgb:=yaa Bgb.out;have hgc:=yaa Bgc.out;refine yad (S:=fun u=>Below W.heap.size W u) 8 (by kernel_rfl) (by kernel_rfl) (fun _ _ d _ _ h=>by cases d<;>exact h) ?_;have hS0:=(Keep.drew [] W).bz;generalize World.drew W=u at *;refine jG (v:=.agg T) 0 hS0 (fun w hw=>yai _ _ ⟨ga,0,none⟩ _ rfl rfl (HLr.out _ _ ((hw.block ga (by omega)).trans Bga.out))) (fun _ _=>?_);go_simp;go_step;refine jG (v:=.agg (rC a)) 1 hS0 (fun w hw=>yai _ _ ⟨gb,0,none⟩ _ rfl rfl (ybm ((hw.block gb (by omega)).trans Bgb.out))) (fun _ _=>?_);go_simp;go_step;refine jG (v:=.agg T) 3 hS0 (fun w hw=>yai _ _ ⟨ga,0,none⟩ _ rfl rfl (HLr.out _ _ ((hw.block ga (by omega)).trans Bga.out))) (fun _ _=>?_);go_simp;go_step;refine jG (v:=.agg (rC b)) 4 hS0 (fun w hw=>yai _ _ ⟨gc,0,none⟩ _ rfl rfl (ybm ((hw.block gc (by omega)).trans Bgc.out))) (fun _ _=>?_);go_simp;go_step;refine uQ 2 54 #[.agg T,.agg (rC a)] hS0 (H1.out _) (fun u2 hS0 _ _ _=>?_);go_simp;go_step;refine uQ 5 54 #[.agg T,.agg (rC b)] hS0 (H2.out _) (fun u3 hS0 _ _ _=>?_);go_simp;go_step;refine yaG (v:=iv I) 6 (by rfl) (by decide) (by kernel_rfl) (by kernel_rfl) (by rfl) hS0 (fun w hw=>yaB 32 #[(0,.tmp 9),(1,.tmp 12)] #[(0,.agg TL),(1,.agg TH)] (iC I) rfl (by simp only [List.map_toArray,List.map_cons,List.map_nil];rfl) HBd.out) (fun _ _=>?_);go_simp;go_step;refine jP 7 (fun K hK=>?_);refine ybR (.slice (some ⟨u3.heap.size,0,none⟩) 1 1) (u3.alloc (.cells (iC I) 32)) (yaJ 22 1 #[(0,.tmp 13)] #[(0,iv I)] _ rfl (by simp only [List.map_toArray,List.map_cons,List.map_nil];rfl) (ybd _ _)) ?_;obtain⟨u4,gl,e3,e4,k3,hl3⟩:=HLi.out u3;rw [e3,e4];have hS0:=hS0.trans (Below.mono k3.bz hS0.size);have Hl3:=jX hl3;clear e3 e4 k3 hl3;go_simp;refine hK _ _ hS0 ?_;clear hK K;refine ⟨by kernel_rfl,?_⟩;simp only [List.drop_succ_cons,List.drop_zero];have HB:=jX (HkW.out.bz.trans (Below.mono hS0 HkW.out.size));clear hS0;go_wp2_with fail;go_ret
 exact ⟨gl,rfl,HB.out,Hl3.out⟩
end
end Go.Proofs.YtpgffjjpiafhpaaGreatDoor
