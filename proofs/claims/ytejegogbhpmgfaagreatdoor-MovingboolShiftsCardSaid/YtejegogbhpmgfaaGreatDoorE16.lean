/- Parts of a proof: Uc. -/
import Derived.Shelf.SlSortCmp.NoneTotal
import Derived.Test.YtejegogbhpmgfaaGreatDoorE12
import Derived.Test.YtejegogbhpmgfaaGreatDoorE15
set_option linter.unusedVariables false
set_option linter.unusedSimpArgs false
set_option maxRecDepth 100000
set_option maxHeartbeats 8000000
namespace Go.Proofs.YtejegogbhpmgfaaGreatDoor
open Go.RowKit
section
open Go.RowKit Go.Sort
theorem yfs (a b:Bd K):cmpB a b<0↔a<b:=by
 rcases ydu a b with ⟨h,g⟩|⟨h,g⟩|⟨h,g⟩
 ·rw [h];constructor
  ·intro h;exact absurd h (by decide)
  intro h;grind
 ·rw [h];exact ⟨fun _=>g,fun _=>by decide⟩
 rw [h];subst g;constructor
 ·intro h;exact absurd h (by decide)
 intro h;grind
theorem cmpB_swo:SWO (ltOf fun x y:Ev K=>cmpB x.at_ y.at_) where
 irrefl x:=by unfold ltOf;rw [decide_eq_false_iff_not,yfs];grind
 trans x y z h1 h2:=by unfold ltOf at *;rw [decide_eq_true_iff,yfs] at *;grind
 ntrans x y z h1 h2:=by unfold ltOf at *;rw [decide_eq_false_iff_not,yfs] at *;grind
def kZ:K:=⟨⟨0,0,false⟩,⟨by show (0:Rat)≤0;grind,fun _=>rfl,fun h=>absurd rfl h⟩,by
 have h0:FitQ 1 0:=by refine ⟨?_,?_⟩<;>rw [Fit_iff]<;>decide
 exact ⟨h0.mono (by decide),h0.mono (by decide)⟩⟩
instance:Inhabited (Ev K):=⟨⟨⟨kZ,false⟩,0,0⟩⟩
theorem own_fz {w:World} {e:TypeId} {k n:Nat} {v:Value} {xs:List Value} (h:w.ownsRow 0 e k v n xs):∀ g,v.ownBlock=some g→∀ j,w.frozen? ⟨g,j,none⟩=false:=by
 rcases h.2 with ⟨rfl,_⟩|⟨g',cap,cur,rfl,hb,hg,_⟩
 ·intro g hg;cases hg
 intro g hgg j;simp [Value.ownBlock] at hgg;subst hgg;exact yaf hg j
theorem sortev_c (l:List (Ev K)) (w0 w:World) (sv:Value) (h:OV_ w0 w sv l) (h9:l.length≤1000000000) :
  Calls Tryz.prog 144 #[sv,.func (.func 145) #[] #[]] w fun e w'=>e = .returned (.tuple #[])∧∃ l':List (Ev K),l'.Perm l∧InOrd l'∧EvR w' sv l'∧Keep [] w0 w':=by
 have hfz:=own_fz h.row;have hb:=h.base;rcases h.read with ⟨rfl,rfl⟩|⟨g,o,c,rfl,hc,hg,hx⟩
 ·have:=AnyF.slices_SortFunc_none { Tryz.sortEv with } none 0 (.func (.func 145) #[] #[]) w
  change Calls Tryz.prog 144 _ _ _ at this;refine this.mono ?_;rintro e w' ⟨he,rfl⟩;exact ⟨he,[],List.Perm.refl _,List.Pairwise.nil,RowE.nil _,h.keep⟩
 have ho:o=0:=by
  rcases h.row.2 with ⟨hv,_⟩|⟨g',cap,cur,hv,_⟩
  ·cases hv
  injection hv with e1;injection e1 with e1;injection e1
 subst ho;have:=sort_row (P:=Tryz.prog) Tryz.sortEv (enc:=fun e:Ev K=>evcells e) (k:=12) (by decide) Tryz.isAgg146 Tryz.sizeOf146 ydh ydn (fun x y=>cmpB x.at_ y.at_) cmpB_swo 145 (enters_of Tryz.func145 (by kernel_rfl) rfl) (fun x y w=>evcmp_c x y w) h.read (fun j=>by rw [Nat.zero_add];exact hfz g rfl j) (by omega);change Calls Tryz.prog 144 _ _ _ at this;refine this.mono ?_;rintro e w' ⟨he,l',hp,hs,hr,hk⟩;refine ⟨he,l',hp,hs.imp (fun {x y} hxy=>?_),hr,h.keep.trans hk (by simp;exact hb g rfl)⟩;unfold ltOf at hxy;rw [decide_eq_false_iff_not,yfs] at hxy;grind
structure OF {α:Type} (enc:α→List Value) (e:TypeId) (k:Nat) (F:List Nat) (w0 w:World) (v:Value) (l:List α):Prop where
 row:w.ownsRow 0 e k v l.length (l.flatMap enc)
 base:∀ g,v.ownBlock=some g→w0.heap.size≤g
 keep:Keep F w0 w
section
variable {α:Type} {enc:α→List Value} {e:TypeId} {k:Nat} {F:List Nat} {w0 w w':World} {v:Value} {l:List α}
theorem OF.nil:OF enc e k F w w (.slice none 0 0) []:=⟨⟨by simp,.inl ⟨rfl,rfl⟩⟩,by simp [Value.ownBlock],Keep.refl _ _⟩
theorem OF.oe (h:OF enc e k F w0 w v l):∃ w1,w1.heap.size=w0.heap.size∧Keep F w0 w1∧OE enc e k w1 w v l:=by
 have hs:=h.keep.size;have hsz:(w.heap.extract 0 w0.heap.size).size=w0.heap.size:=by simp;omega
 have hget:∀ j,j<w0.heap.size→(w.heap.extract 0 w0.heap.size)[j]? = w.heap[j]?:=fun j hj=>by
  rw [Array.getElem?_eq_getElem (by rw [hsz];exact hj),Array.getElem?_eq_getElem (by omega)];simp
 refine ⟨{ w with heap:=w.heap.extract 0 w0.heap.size },hsz,?_,h.row,?_,?_⟩
 ·exact ⟨h.keep.os,h.keep.tape,h.keep.output,by dsimp only;omega,h.keep.drawn,fun j hj hn=>by dsimp only;rw [hget j hj];exact h.keep.block j hj hn⟩
 ·intro g hg;dsimp only;rw [hsz];exact h.base g hg
 refine ⟨rfl,rfl,rfl,by dsimp only;omega,Nat.le_refl _,fun j hj _=>?_⟩;dsimp only at hj ⊢;rw [hsz] at hj;exact (hget j hj).symm
theorem OF.of {w1:World} (hs:w1.heap.size=w0.heap.size) (hk:Keep F w0 w1) (h:OE enc e k w1 w v l):OF enc e k F w0 w v l :=
 ⟨h.row,fun g hg=>by rw [← hs];exact h.base g hg,hk.trans h.keep (by simp)⟩
theorem OF.later (h:OF enc e k F w0 w v l) (hk:Keep [] w w'):OF enc e k F w0 w' v l:=⟨yax h.row hk (by simp),h.base,h.keep.trans hk (by simp)⟩
theorem OF.set {G:List Nat} (h:OF enc e k F w0 w v l) (hk:Keep G w w') (hG:∀ g∈G,g∈F∧g<w0.heap.size):OF enc e k F w0 w' v l :=
 ⟨yax h.row hk (fun g hg hm=>by have:=h.base g hg;have:=(hG g hm).2;omega),h.base,h.keep.trans hk (fun x hx=>.inl (hG x hx).1)⟩
theorem OF.form (h:OF enc e k F w0 w v l):∃ po pc,v = .slice po l.length pc:=yei h.row
theorem OF.read (h:OF enc e k F w0 w v l):RowE enc w v l:=by
 obtain⟨w1,_,_,h1⟩:=h.oe;exact h1.read
end
abbrev OFI:=OF (fun i:Iv K=>icells i) 49 20
theorem OFI.app {ty:TypeId} {F:List Nat} {w0 w:World} {v y:Value} {l m:List (Iv K)} (h:OFI F w0 w v l) (hm:0<m.length) (hy:IvR w y m) (hb:l.length+m.length≤1000000000) :
  ∃ v' w',(Builtin.append_ #[27,27] ty #[v,y]).run Tryz.prog w = .ok v' w'∧OFI F w0 w' v' (l++m)∧∀ j o,j<w0.heap.size→w.heap[j]? = some o→w'.heap[j]? = some o:=by
 obtain⟨w1,hs,hk,h1⟩:=h.oe;obtain⟨v',w',hr,ho,_,hK⟩:=IvR.app (ty:=ty) h1 (.inr hm) hy hb;refine ⟨v',w',hr,OF.of hs hk ho,fun j o hj hg=>?_⟩;rcases hv:v.ownBlock with _|g
 ·exact (hK [] (fun g hg=>by rw [hv] at hg;cases hg)).heap hg (by simp)
 refine (hK [g] (fun x hx=>by rw [hv] at hx;injection hx with hx;simp [hx])).heap hg ?_;have:=h.base g hv;simp;omega
end
end Go.Proofs.YtejegogbhpmgfaaGreatDoor
