/- Parts of a proof: Uc Vl Pm Sz Sw Sx. -/
import Derived.Shelf.SlSortCmp.NoneTotal
import Derived.Test.YtejegogbhpmgfaaGreatDoorG12
import Derived.Test.YtejegogbhpmgfaaGreatDoorG15
import Derived.Test.YtejegogbhpmgfaaGreatDoorG01
set_option linter.unusedVariables false
set_option linter.unusedSimpArgs false
set_option linter.unusedSectionVars false
set_option maxRecDepth 100000
set_option maxHeartbeats 8000000
namespace Go.Proofs.YtejegogbhpmgfaaGreatDoor
open Go.RowKit Tryz
section
open Go.RowKit Go.Sort
theorem yfj (a b:Bd K):cmpB a b<0↔a<b:=by
 rcases ydN a b with ⟨h,g⟩|⟨h,g⟩|⟨h,g⟩
 ·rw [h];constructor
  ·intro h;exact absurd h (by decide)
  intro h;grind
 ·rw [h];exact ⟨fun _=>g,fun _=>by decide⟩
 rw [h];subst g;constructor
 ·intro h;exact absurd h (by decide)
 intro h;grind
theorem cmpB_swo:SWO (ltOf fun x y:Ev K=>cmpB x.at_ y.at_) where
 irrefl x:=by unfold ltOf;rw [decide_eq_false_iff_not,yfj];grind
 trans x y z h1 h2:=by unfold ltOf at *;rw [decide_eq_true_iff,yfj] at *;grind
 ntrans x y z h1 h2:=by unfold ltOf at *;rw [decide_eq_false_iff_not,yfj] at *;grind
def kZ:K:=⟨⟨0,0,false⟩,⟨by show (0:Rat)≤0;grind,fun _=>rfl,fun h=>absurd rfl h⟩,by
 have h0:FitQ 1 0:=by refine ⟨?_,?_⟩<;>rw [Fit_iff]<;>decide
 exact ⟨h0.mono (by decide),h0.mono (by decide)⟩⟩
instance:Inhabited (Ev K):=⟨⟨⟨kZ,false⟩,0,0⟩⟩
theorem own_fz {w:World} {e:TypeId} {k n:Nat} {v:Value} {xs:List Value} (h:w.ownsRow 0 e k v n xs):∀ g,v.ownBlock=some g→∀ j,w.frozen? ⟨g,j,none⟩=false:=by
 rcases h.2 with ⟨rfl,_⟩|⟨g',cap,cur,rfl,hb,hg,_⟩
 ·intro g hg;cases hg
 intro g hgg j;simp [Value.ownBlock] at hgg;subst hgg;exact yaf hg j
theorem sortev_c (l:List (Ev K)) (w0 w:World) (sv:Value) (h:OV_ w0 w sv l) (h9:l.length≤1000000000) :
  Calls Tryz.prog 144 #[sv,.func (.func 145) #[] #[]] w fun e w'=>e = .returned (.tuple #[])∧∃ l':List (Ev K),l'.Perm l∧InOrd l'∧EvR w' sv l'∧Keep [] w0 w':=by
 have hfz:=own_fz h.row;have hb:=h.base;rcases h.read with ⟨rfl,rfl⟩|⟨g,o,c,rfl,hc,hg,hx⟩
 ·have:=AnyF.slices_SortFunc_none { Tryz.sortEv with } none 0 (.func (.func 145) #[] #[]) w
  change Calls Tryz.prog 144 _ _ _ at this;refine this.mono ?_;rintro e w' ⟨he,rfl⟩;exact ⟨he,[],List.Perm.refl _,List.Pairwise.nil,RowE.nil _,h.keep⟩
 have ho:o=0:=by
  rcases h.row.2 with ⟨hv,_⟩|⟨g',cap,cur,hv,_⟩
  ·cases hv
  injection hv with e1;injection e1 with e1;injection e1
 subst ho;have:=sort_row (P:=Tryz.prog) Tryz.sortEv (enc:=fun e:Ev K=>evcells e) (k:=12) (by decide) Tryz.isAgg146 Tryz.sizeOf146 ydr ydg (fun x y=>cmpB x.at_ y.at_) cmpB_swo 145 (enters_of Tryz.func145 (by kernel_rfl) rfl) (fun x y w=>evcmp_c x y w) h.read (fun j=>by rw [Nat.zero_add];exact hfz g rfl j) (by omega);change Calls Tryz.prog 144 _ _ _ at this;refine this.mono ?_;rintro e w' ⟨he,l',hp,hs,hr,hk⟩;refine ⟨he,l',hp,hs.imp (fun {x y} hxy=>?_),hr,h.keep.trans hk (by simp;exact hb g rfl)⟩;unfold ltOf at hxy;rw [decide_eq_false_iff_not,yfj] at hxy;grind
structure OF {α:Type} (enc:α→List Value) (e:TypeId) (k:Nat) (F:List Nat) (w0 w:World) (v:Value) (l:List α):Prop where
 row:w.ownsRow 0 e k v l.length (l.flatMap enc)
 base:∀ g,v.ownBlock=some g→w0.heap.size≤g
 keep:Keep F w0 w
section
variable {α:Type} {enc:α→List Value} {e:TypeId} {k:Nat} {F:List Nat} {w0 w w':World} {v:Value} {l:List α}
theorem OF.nil:OF enc e k F w w (.slice none 0 0) []:=⟨⟨by simp,.inl ⟨rfl,rfl⟩⟩,by simp [Value.ownBlock],Keep.refl _ _⟩
theorem OF.oe (h:OF enc e k F w0 w v l):∃ w1,w1.heap.size=w0.heap.size∧Keep F w0 w1∧OE enc e k w1 w v l:=by
 have hs:=h.keep.size;have hsz:(w.heap.extract 0 w0.heap.size).size=w0.heap.size:=by simp;omega
 have hget:∀ j,j<w0.heap.size→(w.heap.extract 0 w0.heap.size)[j]? = w.heap[j]?:=fun j hj=>by
  rw [Array.getElem?_eq_getElem (by rw [hsz];exact hj),Array.getElem?_eq_getElem (by omega)];simp
 refine ⟨{ w with heap:=w.heap.extract 0 w0.heap.size },hsz,?_,h.row,?_,?_⟩
 ·exact ⟨h.keep.os,h.keep.tape,h.keep.output,by dsimp only;omega,h.keep.drawn,fun j hj hn=>by dsimp only;rw [hget j hj];exact h.keep.block j hj hn⟩
 ·intro g hg;dsimp only;rw [hsz];exact h.base g hg
 refine ⟨rfl,rfl,rfl,by dsimp only;omega,Nat.le_refl _,fun j hj _=>?_⟩;dsimp only at hj ⊢;rw [hsz] at hj;exact (hget j hj).symm
theorem OF.of {w1:World} (hs:w1.heap.size=w0.heap.size) (hk:Keep F w0 w1) (h:OE enc e k w1 w v l):OF enc e k F w0 w v l :=
 ⟨h.row,fun g hg=>by rw [← hs];exact h.base g hg,hk.trans h.keep (by simp)⟩
theorem OF.later (h:OF enc e k F w0 w v l) (hk:Keep [] w w'):OF enc e k F w0 w' v l:=⟨yay h.row hk (by simp),h.base,h.keep.trans hk (by simp)⟩
theorem OF.set {G:List Nat} (h:OF enc e k F w0 w v l) (hk:Keep G w w') (hG:∀ g∈G,g∈F∧g<w0.heap.size):OF enc e k F w0 w' v l :=
 ⟨yay h.row hk (fun g hg hm=>by have:=h.base g hg;have:=(hG g hm).2;omega),h.base,h.keep.trans hk (fun x hx=>.inl (hG x hx).1)⟩
theorem OF.form (h:OF enc e k F w0 w v l):∃ po pc,v = .slice po l.length pc:=yet h.row
theorem OF.read (h:OF enc e k F w0 w v l):RowE enc w v l:=by
 obtain⟨w1,_,_,h1⟩:=h.oe;exact h1.read
end
abbrev OFI:=OF (fun i:Iv K=>icells i) 49 20
theorem OFI.app {ty:TypeId} {F:List Nat} {w0 w:World} {v y:Value} {l m:List (Iv K)} (h:OFI F w0 w v l) (hm:0<m.length) (hy:IvR w y m) (hb:l.length+m.length≤1000000000) :
  ∃ v' w',(Builtin.append_ #[27,27] ty #[v,y]).run Tryz.prog w = .ok v' w'∧OFI F w0 w' v' (l++m)∧∀ j o,j<w0.heap.size→w.heap[j]? = some o→w'.heap[j]? = some o:=by
 obtain⟨w1,hs,hk,h1⟩:=h.oe;obtain⟨v',w',hr,ho,_,hK⟩:=IvR.app (ty:=ty) h1 (.inr hm) hy hb;refine ⟨v',w',hr,OF.of hs hk ho,fun j o hj hg=>?_⟩;rcases hv:v.ownBlock with _|g
 ·exact (hK [] (fun g hg=>by rw [hv] at hg;cases hg)).heap hg (by simp)
 refine (hK [g] (fun x hx=>by rw [hv] at hx;injection hx with hx;simp [hx])).heap hg ?_;have:=h.base g hv;simp;omega
end
section
open Go.RowKit Go.Sort Go.Shelf
section
variable {P:Program} {ρ:Ren} {α:Type} [Inhabited α] {enc:α→List Value} {k:Nat}
theorem ygi (off:Nat) (d:Array Value) (c:Array Value):(putCells id off d c).size=c.size:=by unfold putCells;simp
theorem yiX (w:World) (g o n:Nat) (d:Array α) (os:Array Obj) {cur:Array Value} {e:TypeId} (h:w.heap[g]? = some (.cells cur e (0,0))) :
  ∃ cur':Array Value,cur'.size=cur.size∧(sortWorldK enc k w g o n d os).heap[g]? = some (.cells cur' e (0,0)):=by
 refine ⟨putCells id o (flatK enc k d) cur,ygi _ _ _,?_⟩;have hg:=yab h;unfold sortWorldK grow putRowK putRow mapBlock Go.Sort.ahead;dsimp only;rw [Array.getElem?_append_left (by simpa using hg),Array.getElem?_modify,if_pos rfl,h];rfl
theorem yhM {w:World} {g c n:Nat} {e:TypeId} {cur:Array Value} {l:List α} (hk:∀ x,(enc x).length=k) (hn:n=l.length) (hr:RowE enc w (.slice (some ⟨g,0,none⟩) n c) l) (hg:w.heap[g]? = some (.cells cur e (0,0))) (hnc:n≤c) (hcm:c≤maxLen) (hcs:cur.size=c*k) :
  w.ownsRow 0 e k (.slice (some ⟨g,0,none⟩) n c) n (l.flatMap enc):=by
 have hlen:(l.flatMap enc).length=n*k:=by rw [ybz enc hk,hn]
 refine ⟨hlen,.inr ⟨g,c,cur,rfl,Nat.zero_le _,hg,hnc,hcm,hcs,?_⟩⟩;rcases hr with ⟨hv,_⟩|⟨g',o',c',hv,_,_,hx⟩
 ·cases hv
 injection hv with e1 e2 e3;injection e1 with e1;injection e1 with e1 e4;subst e1 e4;have hle:n*k≤c*k:=Nat.mul_le_mul_right _ hnc;refine List.ext_getElem? fun i=>?_;by_cases hi:i<n*k
 ·rw [List.getElem?_take_of_lt hi]
  have hi2:i<(l.flatMap enc).length:=by omega
  have h1:=hx i _ (List.getElem?_eq_getElem hi2);rw [Nat.zero_add,yaa hg] at h1;rw [List.getElem?_eq_getElem hi2,← h1];simp
 rw [List.getElem?_eq_none (by rw [List.length_take];omega),List.getElem?_eq_none (by omega)]
theorem sort_own (L:SlLaysF0.n6 P ρ) (hk0:0<k) (aE:∀ w,(isAgg (ρ.t 24)).run P w = .ok true w) (zE:∀ w,(Go.sizeOf (ρ.t 24)).run P w = .ok k w) (hk:∀ x,(enc x).length=k) (h1:∀ x,∀ v∈enc x,v.oneCell'=true) (cf:α→α→Int) (hO:SWO (ltOf cf)) (g:Nat)
  (eg:∀ args w,(callFunc g args).run P w = .ok (.enter g args) w) (hcmp:∀ x y w,Calls P g #[.agg (enc x).toArray,.agg (enc y).toArray] w fun e w'=>e = .returned (.int .i64 (cf x y))∧Keep [] w w')
  {w0 w:World} {b n c:Nat} {e:TypeId} {l:List α} (h:OE enc e k w0 w (.slice (some ⟨b,0,none⟩) n c) l) (hsz:l.length<4611686018427387904) :
  Calls P (ρ.f 6) #[.slice (some ⟨b,0,none⟩) n c,.func (.func g) #[] #[]] w fun ex w' =>
   ex = .returned (.tuple #[])∧∃ l',l'.Perm l∧l'.Pairwise (fun x y=>ltOf cf y x=false)∧OE enc e k w0 w' (.slice (some ⟨b,0,none⟩) n c) l':=by
 have hr:=h.read;have hf:∀ j,w.frozen? ⟨b,0+j,none⟩=false:=fun j=>by rw [Nat.zero_add];exact own_fz h.row b rfl j
 have hn:n=l.length:=by
  obtain⟨po,pc,e⟩:=h.form;injection e
 subst hn;rcases h.row.2 with ⟨hv,_⟩|⟨b',c',cur,hv,_,hg,hnc,hcm,hcs,_⟩
 ·cases hv
 injection hv with e1 e2 e3;injection e1 with e1;injection e1 with e1;subst e1 e3;have hb:=yab hg;have hH:=yeT hk hr hf
 have hcl:CmpLays P g #[] enc k cf b 0 l.toArray.size w:=fun m os dk _ x y=>by
  have:=hcmp x y (sortWorldK enc k w b 0 m dk os);exact this.mono fun e w' ⟨he,hkk⟩=>⟨he,hkk.regrown⟩
 have:=AnyQ.slices_SortFunc L k aE zE enc hk h1 cf hO g #[] b 0 c l.toArray w eg hcl hH hb (by simpa using hsz);rw [List.size_toArray] at this;refine this.mono ?_;rintro ex w' ⟨he,d',m,os,⟨hp1,_,hp2⟩,hs,rfl⟩;have hp1:d'.size=l.length:=by simpa using hp1
 have hp:d'.toList.Perm l:=by
  have e1:d'.extract 0 l.length=d':=by rw [← hp1,Array.extract_size]
  have e2:l.toArray.extract 0 l.length=l.toArray:=by rw [← List.size_toArray,Array.extract_size]
  rw [e1,e2] at hp2
  simpa using hp2
 have hkp:Keep [b] w (sortWorldK enc k w b 0 m d' os):=yce _ _ _ _ _ _;refine ⟨he,d'.toList,hp,?_,?_,fun x hx=>h.base x hx,h.keep.trans hkp (by simp;exact h.base b rfl)⟩
 ·rw [List.pairwise_iff_getElem]
  intro i j hi hj hij;simp only [Array.length_toList] at hi hj;have:=hs i j (Nat.zero_le _) hij (by rw [← hp1];exact hj);rw [getElem!_pos d' j hj,getElem!_pos d' i hi] at this
  simpa using this
 have hh:HoldsK enc k (sortWorldK enc k w b 0 m d' os) b 0 d':=by
  unfold sortWorldK;exact holdsK_grow enc k _ os b 0 d' (by unfold putRowK;simpa [Go.Sort.ahead] using hb) (holdsK_putRowK enc k _ b 0 l.toArray d' (holdsK_ahead enc k w m b 0 _ hH) (by simpa using hp1))
 have hrow:=yeR hk (c:=c) hh (Nat.lt_of_lt_of_le hb hkp.size) (by omega);obtain⟨cur',hsz',hg'⟩:=yiX (enc:=enc) (k:=k) w b 0 m d' os hg;rw [hp1] at hrow;have hll:d'.toList.length=l.length:=by rw [Array.length_toList,hp1]
 have:=yhM (e:=e) (cur:=cur') hk hll.symm hrow hg' hnc hcm (by rw [hsz'];exact hcs);rw [hll];exact this
end
instance:Inhabited K:=⟨kZ⟩
theorem yeA (a b:K):cmpQ a.1 b.1<0↔a<b:=by
 rcases K.tri a b with ⟨h,g⟩|⟨h,g⟩|⟨h,g⟩
 ·rw [h];constructor
  ·intro h;exact absurd h (by decide)
  intro h;exact absurd (K.trans g h) (K.irrefl _)
 ·rw [h];exact ⟨fun _=>g,fun _=>by decide⟩
 rw [h];subst g;constructor
 ·intro h;exact absurd h (by decide)
 intro h;exact absurd h (K.irrefl _)
theorem cmpK_swo:SWO (ltOf fun x y:K=>cmpQ x.1 y.1) where
 irrefl x:=by unfold ltOf;rw [decide_eq_false_iff_not,yeA];grind
 trans x y z h1 h2:=by unfold ltOf at *;rw [decide_eq_true_iff,yeA] at *;grind
 ntrans x y z h1 h2:=by unfold ltOf at *;rw [decide_eq_false_iff_not,yeA] at *;grind
theorem rcmpK_c (x y:K) (w:World):Calls Tryz.prog 77 #[.agg (kcells x.1).toArray,.agg (kcells y.1).toArray] w fun e w'=>e = .returned (.int .i64 (cmpQ x.1 y.1))∧Keep [] w w' :=
 RCompare_c x.1 y.1 ⟨x.2.2.1.mono (by decide),x.2.2.2.mono (by decide)⟩ ⟨y.2.2.1.mono (by decide),y.2.2.2.mono (by decide)⟩ w
theorem yfC (l:List K) (w0 w:World) (sv:Value) (h:OK_ w0 w sv l) (h9:l.length≤1000000000) :
  Calls Tryz.prog 76 #[sv,.func (.func 77) #[] #[]] w fun e w'=>e = .returned (.tuple #[])∧∃ l':List K,l'.Perm l∧l'.Pairwise (· ≤ ·)∧OK_ w0 w' sv l':=by
 have h0:=h;rcases h.row.2 with ⟨rfl,hn⟩|⟨g,c,cur,rfl,_⟩
 ·have:=AnyF.slices_SortFunc_none { Tryz.sortReal with } none 0 (.func (.func 77) #[] #[]) w
  change Calls Tryz.prog 76 _ _ _ at this;refine this.mono ?_;rintro e w' ⟨he,rfl⟩;obtain rfl:l=[]:=List.eq_nil_of_length_eq_zero hn;exact ⟨he,[],List.Perm.refl _,List.Pairwise.nil,h0⟩
 have:=sort_own (P:=Tryz.prog) Tryz.sortReal (enc:=fun x:K=>kcells x.1) (k:=9) (by decide) Tryz.isAgg36 Tryz.sizeOf36 (fun x=>yav x.1) (fun x=>yaS x.1) (fun x y=>cmpQ x.1 y.1) cmpK_swo 77 (enters_of Tryz.func77 (by kernel_rfl) rfl) (fun x y w=>rcmpK_c x y w) h0 (by omega);change Calls Tryz.prog 76 _ _ _ at this;refine this.mono ?_;rintro e w' ⟨he,l',hp,hs,ho⟩;refine ⟨he,l',hp,hs.imp (fun {x y} hxy=>?_),ho⟩;unfold ltOf at hxy;rw [decide_eq_false_iff_not,yeA] at hxy;grind
end
section
open Classical
variable {α:Type} [LE α] [LT α] [Std.LawfulOrderLT α] [Std.IsLinearOrder α]
noncomputable def insS (x:α):List α→List α
 | []=>[x]
 | y :: r=>if y<x then y :: insS x r else if y=x then y :: r else x :: y :: r
noncomputable def ybf (l:List α):List α:=l.foldl (fun out x=>insS x out) []
theorem yiw {x z:α} (l:List α):z∈insS x l↔z=x∨z∈l:=by
 induction l with
 | nil=>simp [insS]
 | cons y r ih =>
  unfold insS;by_cases h1:y<x
  ·rw [if_pos h1,List.mem_cons,ih,List.mem_cons]
   constructor
   ·rintro (h|h|h)<;>simp [h]
   rintro (h|h|h)<;>simp [h]
  rw [if_neg h1];by_cases h2:y=x
  ·rw [if_pos h2,List.mem_cons]
   subst h2;simp
  rw [if_neg h2,List.mem_cons]
theorem insS_ord {x:α} {l:List α} (h:l.Pairwise (· < ·)):(insS x l).Pairwise (· < ·):=by
 induction l with
 | nil=>simp [insS]
 | cons y r ih =>
  obtain⟨h1,h2⟩:=List.pairwise_cons.1 h;unfold insS;by_cases h3:y<x
  ·rw [if_pos h3,List.pairwise_cons]
   refine ⟨fun z hz=>?_,ih h2⟩;rcases (yiw r).1 hz with rfl|hz
   ·exact h3
   exact h1 z hz
  rw [if_neg h3];by_cases h4:y=x
  ·rw [if_pos h4];exact h
  rw [if_neg h4,List.pairwise_cons];refine ⟨fun z hz=>?_,h⟩;rcases List.mem_cons.1 hz with rfl|hz
  ·grind
  have:=h1 z hz;grind
theorem ygL (l:List α):∀ out:List α,out.Pairwise (· < ·)→(l.foldl (fun out x=>insS x out) out).Pairwise (· < ·)∧∀ z,z∈l.foldl (fun out x=>insS x out) out↔z∈out∨z∈l:=by
 induction l with
 | nil=>intro out h;exact ⟨h,by simp⟩
 | cons x l ih =>
  intro out h;obtain⟨h1,h2⟩:=ih (insS x out) (insS_ord h);refine ⟨h1,fun z=>?_⟩;rw [List.foldl_cons,h2,yiw,List.mem_cons];constructor
  ·rintro ((h|h)|h)<;>simp [h]
  rintro (h|h|h)<;>simp [h]
theorem ydz (l:List α):(ybf l).Pairwise (· < ·):=(ygL l [] List.Pairwise.nil).1
theorem ybC {l:List α} {z:α}:z∈ybf l↔z∈l:=by rw [ybf,(ygL l [] List.Pairwise.nil).2];simp
theorem ycx {l m:List α} (hl:l.Pairwise (· < ·)) (hm:m.Pairwise (· < ·)) (h:∀ z,z∈l↔z∈m):l=m:=by
 induction l generalizing m with
 | nil =>
  cases m with
  | nil=>rfl
  | cons y m=>exact absurd ((h y).2 List.mem_cons_self) (by simp)
 | cons x l ih =>
  cases m with
  | nil=>exact absurd ((h x).1 List.mem_cons_self) (by simp)
  | cons y m =>
   obtain⟨a1,a2⟩:=List.pairwise_cons.1 hl;obtain⟨b1,b2⟩:=List.pairwise_cons.1 hm
   have e:x=y:=by
    rcases List.mem_cons.1 ((h x).1 List.mem_cons_self) with e|e
    ·exact e
    rcases List.mem_cons.1 ((h y).2 List.mem_cons_self) with e2|e2
    ·exact e2.symm
    have:=a1 _ e2;have:=b1 _ e;grind
   subst e;rw [ih a2 b2 (fun z=>?_)];have:=h z;rw [List.mem_cons,List.mem_cons] at this;constructor
   ·intro hz
    rcases this.1 (.inr hz) with e|e
    ·subst e;have:=a1 _ hz;grind
    exact e
   intro hz;rcases this.2 (.inr hz) with e|e
   ·subst e;have:=b1 _ hz;grind
   exact e
noncomputable def compactS:List α→List α
 | []=>[]
 | [x]=>[x]
 | x :: y :: r=>if x=y then compactS (y :: r) else x :: compactS (y :: r)
theorem ycD {z:α} (l:List α):z∈compactS l↔z∈l:=by
 induction l with
 | nil=>simp [compactS]
 | cons x r ih =>
  cases r with
  | nil=>simp [compactS]
  | cons y r =>
   unfold compactS;by_cases h:x=y
   ·rw [if_pos h,ih];subst h;simp
   rw [if_neg h,List.mem_cons,ih,List.mem_cons (a:=z) (b:=x)]
theorem yea {l:List α} (h:l.Pairwise (· ≤ ·)):(compactS l).Pairwise (· < ·):=by
 induction l with
 | nil=>simp [compactS]
 | cons x r ih =>
  cases r with
  | nil=>simp [compactS]
  | cons y r =>
   obtain⟨h1,h2⟩:=List.pairwise_cons.1 h;unfold compactS;by_cases hxy:x=y
   ·rw [if_pos hxy];exact ih h2
   rw [if_neg hxy,List.pairwise_cons];refine ⟨fun z hz=>?_,ih h2⟩;have h3:=h1 y List.mem_cons_self;have h4:=(ycD _).1 hz;rcases List.mem_cons.1 h4 with rfl|h4
   ·grind
   have:=(List.pairwise_cons.1 h2).1 z h4;grind
theorem ygo {l m:List α} (hp:l.Perm m) (h:m.Pairwise (· ≤ ·)):compactS m=ybf l :=
 ycx (yea h) (ydz l) (fun z=>by rw [ycD,ybC,hp.mem_iff])
end
section
open Classical
theorem yhY {x:K}:∀ (l:List K) (k:Nat),k≤l.length→(∀ j (h:j<l.length),j<k→l[j]<x) →
  ((∀ h:k<l.length,l[k]=x→insS x l=l)∧((k=l.length∨∃ h:k<l.length,x<l[k])→insS x l=l.take k++x :: l.drop k)):=by
 intro l;induction l with
 | nil =>
  intro k hk _;obtain rfl:k=0:=by simpa using hk
  exact ⟨fun h=>absurd h (by simp),fun _=>rfl⟩
 | cons y l ih =>
  intro k hk hlt;cases k with
  | zero =>
   refine ⟨fun h he=>?_,fun h=>?_⟩
   ·have he:y=x:=he
    subst he;unfold insS;rw [if_neg (by grind),if_pos rfl]
   rcases h with h|⟨h,hx⟩
   ·simp at h
   have hx:x<y:=hx;unfold insS;rw [if_neg (by grind),if_neg (by grind)];rfl
  | succ k =>
   have hy:y<x:=hlt 0 (by simp) (by omega);obtain⟨i1,i2⟩:=ih k (by simpa using hk) (fun j h hj=>hlt (j+1) (by simp;omega) (by omega));refine ⟨fun h he=>?_,fun h=>?_⟩
   ·unfold insS
    rw [if_pos hy,i1 (by simpa using h) he]
   unfold insS;rw [if_pos hy,i2 ?_]
   ·rfl
   rcases h with h|⟨h,hx⟩
   ·exact .inl (by simpa using h)
   exact .inr ⟨by simpa using h,hx⟩
theorem yjJ {l:List K} {i:Nat} (h:i<l.length):ybf (l.take (i+1))=insS l[i] (ybf (l.take i)):=by
 unfold ybf;rw [List.take_succ_eq_append_getElem h,List.foldl_append];rfl
theorem ydM (l:List K):(ybf l).length≤l.length:=by
 have:∀ (l out:List K),(l.foldl (fun out x=>insS x out) out).length≤out.length+l.length:=by
  intro l;induction l with
  | nil=>intro out;simp
  | cons x l ih =>
   intro out;rw [List.foldl_cons];have h1:=ih (insS x out)
   have h2:(insS x out).length≤out.length+1:=by
    clear h1 ih;induction out with
    | nil=>simp [insS]
    | cons y r ih2 =>
     unfold insS;split
     ·simp;omega
     split<;>simp
   rw [List.length_cons];omega
 have:=this l [];unfold ybf
 simpa using this
theorem ycW {P:Program} {o:Oper} {ev:Operand→Value} {w:World} (t:TypeId) (x:Operand) (lo hi mx:Option Operand) (vx v:Value) (lo' hi' mx':Option Value) (ho:o.op = .slice t x lo hi mx) (hx:ev x=vx) (h1:lo.map ev=lo') (h2:hi.map ev=hi') (h3:mx.map ev=mx')
  (h:(Instr.sliceAt t vx lo' hi' mx').run P w = .ok v w):(execOp ev o).run P w = .ok (.value v) w:=by
 unfold execOp;simp only [ho,hx,h1,h2,h3,Sem.run_bind,Sem.run_pure,Result.andThen_ok,h]
theorem yfG (ov:Value) (l:List K) (w:World) (h:KR w ov l) (k:Nat) (hk:k≤l.length) (h9:l.length≤1000000000) :
  ∃ v1,(∀ u,(Instr.sliceAt 56 ov none (some (.int .i64 (k:Int))) none).run prog u = .ok v1 u)∧KR w v1 (l.take k):=by
 have h0:=h;rcases h with ⟨rfl,rfl⟩|⟨g,o,c,rfl,hc,hg,hx⟩
 ·obtain rfl:k=0:=by simpa using hk
  exact ⟨.slice none 0 0,fun u=>by go_simp,RowE.nil w⟩
 refine ⟨.slice (some ⟨g,o,none⟩) k c,fun u=>?_,RowE.take (fun (x:K)=>yav x.1) h0 k hk⟩;have e1:k≤c:=by omega
 go_simp
theorem yfF (ov:Value) (l:List K) (w:World) (h:KR w ov l) (k:Nat) (hk:k≤l.length) (h9:l.length≤1000000000) :
  ∃ v1,(∀ u,(Instr.sliceAt 56 ov (some (.int .i64 (k:Int))) none none).run prog u = .ok v1 u)∧KR w v1 (l.drop k):=by
 have h0:=h;rcases h with ⟨rfl,rfl⟩|⟨g,o,c,rfl,hc,hg,hx⟩
 ·obtain rfl:k=0:=by simpa using hk
  exact ⟨.slice none 0 0,fun u=>by go_simp,RowE.nil w⟩
 by_cases hck:c=k
 ·have hl:l.length=k:=by omega
  subst hck;refine ⟨.slice (some ⟨g,o,none⟩) 0 0,fun u=>?_,?_⟩
  ·rw [hl];go_simp
  rw [List.drop_eq_nil_of_le (by omega)];exact .inr ⟨g,o,0,rfl,Nat.le_refl _,hg,fun i v hv=>by simp at hv⟩
 refine ⟨.slice (some ⟨g,o+k*9,none⟩) (l.length-k) (c-k),fun u=>?_,RowE.drop (fun (x:K)=>yav x.1) h0 k hk⟩;go_simp
end
section
theorem yfW (x y:Qn):((((sgB x.p.num == sgB y.p.num)&&decide (mgS x.p.num=mgS y.p.num))&&((false == false)&&decide (dnS x.p.den=dnS y.p.den)))&&((((sgB x.r.num == sgB y.r.num)&&decide (mgS x.r.num=mgS y.r.num))&&((false == false)&&decide (dnS x.r.den=dnS y.r.den)))&&(x.neg == y.neg)))=(decide (x.p=y.p)&&(decide (x.r=y.r)&&(x.neg == y.neg))):=by
 rw [yeB,yeB]
theorem Qn.eq_dec (x y:Qn):(decide (x.p=y.p)&&(decide (x.r=y.r)&&(x.neg == y.neg)))=true↔x=y:=by
 obtain⟨p,r,n⟩:=x;obtain⟨p',r',n'⟩:=y;simp
theorem K.ext_iff {x y:K}:x=y↔x.1=y.1:=Subtype.ext_iff
open Classical in
theorem eqI_dec (i j:Iv K):((decide (i.f.pt.1.p=j.f.pt.1.p)&&(decide (i.f.pt.1.r=j.f.pt.1.r)&&(i.f.pt.1.neg == j.f.pt.1.neg)))&&((decide (i.l.pt.1.p=j.l.pt.1.p)&&(decide (i.l.pt.1.r=j.l.pt.1.r)&&(i.l.pt.1.neg == j.l.pt.1.neg)))&&((i.f.beh == j.f.beh)&&((!i.l.beh) == (!j.l.beh)))))=decide (i=j):=by
 rw [Bool.eq_iff_iff,decide_eq_true_iff,Bool.and_eq_true,Qn.eq_dec,Bool.and_eq_true,Qn.eq_dec,← K.ext_iff,← K.ext_iff];obtain⟨⟨a,b⟩,⟨c,d⟩⟩:=i;obtain⟨⟨a',b'⟩,⟨c',d'⟩⟩:=j;simp;constructor
 ·rintro ⟨rfl,rfl,rfl,h⟩
  exact ⟨⟨rfl,rfl⟩,rfl,h⟩
 rintro ⟨⟨rfl,rfl⟩,rfl,h⟩;exact ⟨rfl,rfl,rfl,h⟩
open Classical
theorem eqI_in (d:Nat) (x0 x1 x2 x3 x4 x5 x6 x7 x8 y0 y1 y2 y3 y4 y5 y6 y7 y8 u0 u1 u2 u3 u4 u5 u6 u7 u8 v0 v1 v2 v3 v4 v5 v6 v7 v8:Value) (o1 c1 o2 c2 k1 k2:Bool)
  (e1:∀ w,(Op.equalIn (d+4) 36 (.agg #[x0,x1,x2,x3,x4,x5,x6,x7,x8]) (.agg #[u0,u1,u2,u3,u4,u5,u6,u7,u8])).run prog w = .ok k1 w) (e2:∀ w,(Op.equalIn (d+4) 36 (.agg #[y0,y1,y2,y3,y4,y5,y6,y7,y8]) (.agg #[v0,v1,v2,v3,v4,v5,v6,v7,v8])).run prog w = .ok k2 w) (w:World) :
  (Op.equalIn (d+5) 49 (.agg #[x0,x1,x2,x3,x4,x5,x6,x7,x8,y0,y1,y2,y3,y4,y5,y6,y7,y8,.bool o1,.bool c1]) (.agg #[u0,u1,u2,u3,u4,u5,u6,u7,u8,v0,v1,v2,v3,v4,v5,v6,v7,v8,.bool o2,.bool c2])).run prog w = .ok (k1&&(k2&&((o1 == o2)&&(c1 == c2)))) w:=by
 have u3:=underlying36;have a3:=isAgg36;have z3:=sizeOf36;have u4:=underlying4;have aa4:=isAgg4;have z4:=sizeOf4;have hS:prog.underlying 49=some (.struct (prog.fieldsOf 49)):=by kernel_rfl
 have hp:prog.stoodInHeld 49=false:=by kernel_rfl
 rw [run_equalIn_agg w (d+4) 49 _ _ hS hp];simp only [Program.fieldsOf,underlying49];go_simp;cases k1<;>cases k2<;>cases o1<;>cases o2<;>cases c1<;>cases c2<;>simp
theorem eqI_g:prog.eqGuardType prog.depth 49=false:=by kernel_rfl
theorem neqR_run (x y:K) (w:World):(binOp .neq 36 (kv x) (kv y)).run prog w = .ok (.bool (!decide (x=y))) w:=by
 rw [yaI,yaI,run_neq_struct,show (10000:Nat)=9996+4 from rfl,yiD,yfW]
 have h:(decide (x.1.p=y.1.p)&&(decide (x.1.r=y.1.r)&&(x.1.neg == y.1.neg)))=decide (x=y):=by rw [Bool.eq_iff_iff,Qn.eq_dec,decide_eq_true_iff,K.ext_iff]
 rw [h];rfl
theorem eqR_run (x y:K) (w:World):(binOp .eql 36 (kv x) (kv y)).run prog w = .ok (.bool (decide (x=y))) w:=by
 rw [yaI,yaI,run_eql_struct,show (10000:Nat)=9996+4 from rfl,yiD,yfW]
 have h:(decide (x.1.p=y.1.p)&&(decide (x.1.r=y.1.r)&&(x.1.neg == y.1.neg)))=decide (x=y):=by rw [Bool.eq_iff_iff,Qn.eq_dec,decide_eq_true_iff,K.ext_iff]
 rw [h];rfl
theorem eqI_at (i j:Iv K) (w:World):(Op.equalIn 10000 49 (iv i) (iv j)).run prog w = .ok (decide (i=j)) w:=by
 rw [ybk,ybk,show (10000:Nat)=9995+5 from rfl,eqI_in 9995 _ _ _ _ _ _ _ _ _ _ _ _ _ _ _ _ _ _ _ _ _ _ _ _ _ _ _ _ _ _ _ _ _ _ _ _ _ _ _ _ _ _ (fun w=>yiD 9995 _ _ _ _ _ _ _ _ _ _ _ _ _ _ _ _ _ _ w) (fun w=>yiD 9995 _ _ _ _ _ _ _ _ _ _ _ _ _ _ _ _ _ _ w),yfW,yfW,eqI_dec]
theorem neqI_run (i j:Iv K) (w:World):(binOp .neq 49 (iv i) (iv j)).run prog w = .ok (.bool (!decide (i=j))) w:=by
 have h:=eqI_at i j w;unfold iv at *;rw [run_neq_struct,h];rfl
theorem eqlI_run (i j:Iv K) (w:World):(binOp .eql 49 (iv i) (iv j)).run prog w = .ok (.bool (decide (i=j))) w:=by
 have h:=eqI_at i j w;unfold iv at *;rw [run_eql_struct,h];rfl
end
section
open Classical
theorem ycm {C:World→Prop} {o:Oper} {a:Act} {K:Act→Prop} (op:BinOp) (t:TypeId) (x y:Operand) (s:TypeId) (cx cy:Array Value) (v:Value) (ho:o.op = .binOp op t x y s) (hx:a.eval x = .agg cx) (hy:a.eval y = .agg cy) (hg:prog.eqGuardType prog.depth t=false)
  (h:∀ w,(binOp op t (.agg cx) (.agg cy)).run prog w = .ok v w) (hk:K (a.put o.dst v)):o.quiet prog a C K :=
 ⟨v,fun w hw=>by
  unfold Oper.quietAt execOp;simp only [ho,hx,hy,Sem.run_bind,run_eqGuard_agg (hm:=hg),Result.andThen_ok,h w,Sem.run_pure]
  exact ⟨rfl,rfl⟩,hk⟩
theorem equal_c (l m:List (Iv K)) (w:World) (sv tv:Value) (hr:IvR w sv l) (hs:IvR w tv m) (h9:l.length≤1000000000) (h8:m.length≤1000000000) :
  Calls prog 21 #[sv,tv] w fun e w'=>e = .returned (.bool (decide (l=m)))∧Keep [] w w':=by
 have HR:=jX hr;have HS:=jX hs;obtain⟨ao,ac,rfl,_⟩:=hr.form;obtain⟨bo,bc,rfl,_⟩:=hs.form;clear hr hs;by_cases hlen:l.length=m.length
 ·have hne:((l.length:Int) != (m.length:Int))=false:=by rw [hlen];simp
  have Hlen:=jX hlen;clear hlen;go_enter func21,ntmps21
  go_wp2_with fail;go_loopw [5] (fun c wr=>∃ k:Nat,k≤l.length∧c = .int .i64 (k:Int)∧l.take k=m.take k∧Keep [] w wr) (fun c _=>l.length-(intOf c).toNat)
  case atStart=>exact ⟨0,Nat.zero_le _,rfl,rfl,Keep.refl _ _⟩
  case round =>
   obtain⟨k,hk,rfl,heq,hkeep⟩:=hrel;have Heq:=jX heq;have HKr:=jX hkeep;clear heq hkeep;by_cases hlt:k<l.length
   ·have hlt2:k<m.length:=by rw [← Hlen.out];exact hlt
    obtain⟨g,o,rfl,hg,hat⟩:=IvR.elem (HR.out.later HKr.out) k hlt;obtain⟨g2,o2,rfl,hg2,hat2⟩:=IvR.elem (HS.out.later HKr.out) k hlt2;obtain⟨i,hi⟩:∃ i,l[k]=i:=⟨_,rfl⟩;obtain⟨j,hj⟩:∃ j,m[k]=j:=⟨_,rfl⟩;have Hi:=jX hi;have Hj:=jX hj;rw [hi] at hat;rw [hj] at hat2;clear hi hj;obtain⟨p,hp⟩:∃ p,o+k*20=p:=⟨_,rfl⟩;obtain⟨q,hq⟩:∃ q,o2+k*20=q:=⟨_,rfl⟩;rw [hp] at hat;rw [hq] at hat2;have HLa:=jX (hat.ld hg);have HLb:=jX (hat2.ld hg2);have HN:=jX (neqI_run i j);clear hat hat2;unfold iv at *;generalize iC i=I at *;generalize iC j=J at *;by_cases hij:i=j
    ·rw [decide_eq_true hij] at HN
     have Hij:=jX hij;clear hij;go_wp2_with fail;refine yac (by kernel_rfl) (by kernel_rfl) ?_
     repeat (first
      | go_big_quiet_skip
      | (go_big_quiet_want;first
       | (refine yai _ _ _ (.agg I) rfl rfl (by rintro _ ⟨m,rfl⟩;exact HLa.out m) ?_;go_simp;go_big_quiet_on)|(refine yai _ _ _ (.agg J) rfl rfl (by rintro _ ⟨m,rfl⟩;exact HLb.out m) ?_;go_simp;go_big_quiet_on)|(refine ycm _ _ _ _ _ _ _ (_) rfl rfl rfl eqI_g (by intro w;exact HN.out w) ?_;go_simp;go_big_quiet_on)
       | (go_big_quiet_op;first|go_big_quiet_on|go_big_quiet_call (first
        | fail))))
     refine wpQuiet_nil ?_;rintro w1 ⟨⟨_,hk_w1⟩,rfl⟩;clear HLa HLb HN;have Hk1:=jX hk_w1;clear hk_w1;go_wp2_with fail;go_roundw
     case rel=>exact ⟨k+1,by omega,congrArg (Value.int .i64) (by omega),by rw [List.take_succ_eq_append_getElem hlt,List.take_succ_eq_append_getElem hlt2,Heq.out,Hi.out,Hj.out,Hij.out],HKr.out.tz Hk1.out⟩
     case measure=>simp [intOf];omega
    rw [decide_eq_false hij] at HN;have Hij:=jX hij;clear hij;go_wp2_with fail;refine yac (by kernel_rfl) (by kernel_rfl) ?_
    repeat (first
     | go_big_quiet_skip
     | (go_big_quiet_want;first
      | (refine yai _ _ _ (.agg I) rfl rfl (by rintro _ ⟨m,rfl⟩;exact HLa.out m) ?_;go_simp;go_big_quiet_on)|(refine yai _ _ _ (.agg J) rfl rfl (by rintro _ ⟨m,rfl⟩;exact HLb.out m) ?_;go_simp;go_big_quiet_on)|(refine ycm _ _ _ _ _ _ _ (_) rfl rfl rfl eqI_g (by intro w;exact HN.out w) ?_;go_simp;go_big_quiet_on)
      | (go_big_quiet_op;first|go_big_quiet_on|go_big_quiet_call (first
       | fail))))
    refine wpQuiet_nil ?_;rintro w1 ⟨⟨_,hk_w1⟩,rfl⟩;clear HLa HLb HN;have Hk1:=jX hk_w1;clear hk_w1;go_wp2_with fail;go_ret
    have hno:l≠m:=fun e=>Hij.out (by rw [← Hi.out,← Hj.out];simp only [e]);exact ⟨by rw [decide_eq_false hno];rfl,HKr.out.tz Hk1.out⟩
   obtain rfl:k=l.length:=by omega
   go_wp2_with fail;go_ret
   have he:l=m:=by
    have:=Heq.out;rw [List.take_length,Hlen.out,List.take_length] at this;exact this
   exact ⟨by rw [decide_eq_true he];rfl,HKr.out⟩
 have hne:((l.length:Int) != (m.length:Int))=true:=by rw [bne_iff_ne];omega
 have hno:l≠m:=fun e=>hlen (by rw [e]);rw [decide_eq_false hno];clear hno hlen;go_enter func21,ntmps21
 go_wp2_with fail;go_ret
 exact ⟨rfl,Keep.refl _ _⟩
end
end Go.Proofs.YtejegogbhpmgfaaGreatDoor
