/- Parts of a proof: Layg Uc. -/
import Derived.Shelf.SlSortCmp.WholeK
import Derived.Shelf.SlSortCmp.NoneTotal
import Derived.Test.YtpgffjjpiafhpaaGreatDoorProg
import Derived.Test.YtpgffjjpiafhpaaGreatDoorS16
set_option linter.unusedVariables false
set_option linter.unusedSimpArgs false
set_option maxRecDepth 100000
set_option maxHeartbeats 8000000
namespace Go.Proofs
open Go.RowKit
section
open Go.Shelf
def Tryz.sortEv_ren:Go.Shelf.Ren:=⟨fun|6=>162|15=>183|14=>192|28=>211|29=>191|20=>222|21=>223|22=>224|23=>225|24=>226|25=>227|26=>228|27=>229|46=>241|47=>234|48=>235|49=>242|50=>243|57=>256|n=>n,fun|22=>180|24=>183|25=>185|3=>3|39=>201|0=>0|53=>230|55=>175|4=>4|46=>224|45=>223|50=>219|5=>5|9=>9|66=>251|70=>255|76=>272|77=>273|n=>n,fun|n=>n⟩
theorem Tryz.sortEv:Go.Proofs.SlLaysF0.n6 Tryz.prog Tryz.sortEv_ren:={
 mixed:=by kernel_rfl
 f6:=⟨Tryz.f162.name,by decide,Tryz.func162.trans (congrArg some (by kernel_rfl))⟩
 f14:=⟨Tryz.f192.name,by decide,Tryz.func192.trans (congrArg some (by kernel_rfl))⟩
 f15:=Tryz.func183.trans (congrArg some (by kernel_rfl))
 f20:=⟨Tryz.f222.name,by decide,Tryz.func222.trans (congrArg some (by kernel_rfl))⟩
 f21:=⟨Tryz.f223.name,by decide,Tryz.func223.trans (congrArg some (by kernel_rfl))⟩
 f22:=⟨Tryz.f224.name,by decide,Tryz.func224.trans (congrArg some (by kernel_rfl))⟩
 f23:=⟨Tryz.f225.name,by decide,Tryz.func225.trans (congrArg some (by kernel_rfl))⟩
 f24:=⟨Tryz.f226.name,by decide,Tryz.func226.trans (congrArg some (by kernel_rfl))⟩
 f25:=⟨Tryz.f227.name,by decide,Tryz.func227.trans (congrArg some (by kernel_rfl))⟩
 f26:=⟨Tryz.f228.name,by decide,Tryz.func228.trans (congrArg some (by kernel_rfl))⟩
 f27:=⟨Tryz.f229.name,by decide,Tryz.func229.trans (congrArg some (by kernel_rfl))⟩
 f28:=Tryz.func211.trans (congrArg some (by kernel_rfl))
 f29:=Tryz.func191.trans (congrArg some (by kernel_rfl))
 f46:=⟨Tryz.f241.name,by decide,Tryz.func241.trans (congrArg some (by kernel_rfl))⟩
 f47:=Tryz.func234.trans (congrArg some (by kernel_rfl))
 f48:=Tryz.func235.trans (congrArg some (by kernel_rfl))
 f49:=⟨Tryz.f242.name,by decide,Tryz.func242.trans (congrArg some (by kernel_rfl))⟩
 f50:=⟨Tryz.f243.name,by decide,Tryz.func243.trans (congrArg some (by kernel_rfl))⟩
 f57:=⟨Tryz.f256.name,by decide,Tryz.func256.trans (congrArg some (by kernel_rfl))⟩
 t0:=Tryz.underlying0
 a0:=Tryz.isAgg0
 z0:=Tryz.sizeOf0
 v0:=Tryz.zeroValue0
 t3:=Tryz.underlying3
 a3:=Tryz.isAgg3
 z3:=Tryz.sizeOf3
 v3:=Tryz.zeroValue3
 t4:=Tryz.underlying4
 a4:=Tryz.isAgg4
 z4:=Tryz.sizeOf4
 v4:=Tryz.zeroValue4
 t5:=Tryz.underlying5
 a5:=Tryz.isAgg5
 z5:=Tryz.sizeOf5
 v5:=Tryz.zeroValue5
 t9:=Tryz.underlying9
 a9:=Tryz.isAgg9
 z9:=Tryz.sizeOf9
 v9:=Tryz.zeroValue9
 t22:=Tryz.underlying180
 a22:=Tryz.isAgg180
 z22:=Tryz.sizeOf180
 v22:=Tryz.zeroValue180
 t25:=Tryz.underlying185
 a25:=Tryz.isAgg185
 z25:=Tryz.sizeOf185
 v25:=Tryz.zeroValue185
 t39:=Tryz.underlying201
 a39:=Tryz.isAgg201
 z39:=Tryz.sizeOf201
 v39:=Tryz.zeroValue201
 t45:=Tryz.underlying223
 a45:=Tryz.isAgg223
 z45:=Tryz.sizeOf223
 v45:=Tryz.zeroValue223
 t46:=Tryz.underlying224
 a46:=Tryz.isAgg224
 z46:=Tryz.sizeOf224
 v46:=Tryz.zeroValue224
 t50:=Tryz.underlying219
 a50:=Tryz.isAgg219
 z50:=Tryz.sizeOf219
 v50:=Tryz.zeroValue219
 t53:=Tryz.underlying230
 a53:=Tryz.isAgg230
 z53:=Tryz.sizeOf230
 v53:=Tryz.zeroValue230
 t55:=Tryz.underlying175
 a55:=Tryz.isAgg175
 z55:=Tryz.sizeOf175
 v55:=Tryz.zeroValue175
 t66:=Tryz.underlying251
 a66:=Tryz.isAgg251
 z66:=Tryz.sizeOf251
 v66:=Tryz.zeroValue251
 t70:=Tryz.underlying255
 a70:=Tryz.isAgg255
 z70:=Tryz.sizeOf255
 v70:=Tryz.zeroValue255
 t76:=Tryz.underlying272
 a76:=Tryz.isAgg272
 z76:=Tryz.sizeOf272
 v76:=Tryz.zeroValue272
 t77:=Tryz.underlying273
 a77:=Tryz.isAgg273
 z77:=Tryz.sizeOf273
 v77:=Tryz.zeroValue273 }
end
end Go.Proofs
namespace Go.Proofs.YtpgffjjpiafhpaaGreatDoor
open Go.RowKit
section
open Go.RowKit Go.Sort
theorem yfx (a b:Bd K):cmpB a b<0↔a<b:=by
 rcases ydh a b with ⟨h,g⟩|⟨h,g⟩|⟨h,g⟩
 ·rw [h];constructor
  ·intro h;exact absurd h (by decide)
  intro h;grind
 ·rw [h];exact ⟨fun _=>g,fun _=>by decide⟩
 rw [h];subst g;constructor
 ·intro h;exact absurd h (by decide)
 intro h;grind
theorem cmpB_swo:SWO (ltOf fun x y:Ev K=>cmpB x.at_ y.at_) where
 irrefl x:=by unfold ltOf;rw [decide_eq_false_iff_not,yfx];grind
 trans x y z h1 h2:=by unfold ltOf at *;rw [decide_eq_true_iff,yfx] at *;grind
 ntrans x y z h1 h2:=by unfold ltOf at *;rw [decide_eq_false_iff_not,yfx] at *;grind
def kZ:K:=⟨⟨0,0,false⟩,⟨by show (0:Rat)≤0;grind,fun _=>rfl,fun h=>absurd rfl h⟩,by
 have h0:FitQ 1 0:=by refine ⟨?_,?_⟩<;>rw [Fit_iff]<;>decide
 exact ⟨h0.mono (by decide),h0.mono (by decide)⟩⟩
instance:Inhabited (Ev K):=⟨⟨⟨kZ,false⟩,0,0⟩⟩
theorem own_fz {w:World} {e:TypeId} {k n:Nat} {v:Value} {xs:List Value} (h:w.ownsRow 0 e k v n xs):∀ g,v.ownBlock=some g→∀ j,w.frozen? ⟨g,j,none⟩=false:=by
 rcases h.2 with ⟨rfl,_⟩|⟨g',cap,cur,rfl,hb,hg,_⟩
 ·intro g hg;cases hg
 intro g hgg j;simp [Value.ownBlock] at hgg;subst hgg;exact yak hg j
theorem sortev_c (l:List (Ev K)) (w0 w:World) (sv:Value) (h:OV_ w0 w sv l) (h9:l.length≤1000000000) :
  Calls Tryz.prog 162 #[sv,.func (.func 163) #[] #[]] w fun e w'=>e = .returned (.tuple #[])∧∃ l':List (Ev K),l'.Perm l∧InOrd l'∧EvR w' sv l'∧Keep [] w0 w':=by
 have hfz:=own_fz h.row;have hb:=h.base;rcases h.read with ⟨rfl,rfl⟩|⟨g,o,c,rfl,hc,hg,hx⟩
 ·have:=AnyF.slices_SortFunc_none { Tryz.sortEv with } none 0 (.func (.func 163) #[] #[]) w
  change Calls Tryz.prog 162 _ _ _ at this;refine this.mono ?_;rintro e w' ⟨he,rfl⟩;exact ⟨he,[],List.Perm.refl _,List.Pairwise.nil,RowE.nil _,h.keep⟩
 have ho:o=0:=by
  rcases h.row.2 with ⟨hv,_⟩|⟨g',cap,cur,hv,_⟩
  ·cases hv
  injection hv with e1;injection e1 with e1;injection e1
 subst ho;have:=sort_row (P:=Tryz.prog) Tryz.sortEv (enc:=fun e:Ev K=>evcells e) (k:=12) (by decide) Tryz.isAgg183 Tryz.sizeOf183 ydm ydo (fun x y=>cmpB x.at_ y.at_) cmpB_swo 163 (enters_of Tryz.func163 (by kernel_rfl) rfl) (fun x y w=>evcmp_c x y w) h.read (fun j=>by rw [Nat.zero_add];exact hfz g rfl j) (by omega);change Calls Tryz.prog 162 _ _ _ at this;refine this.mono ?_;rintro e w' ⟨he,l',hp,hs,hr,hk⟩;refine ⟨he,l',hp,hs.imp (fun {x y} hxy=>?_),hr,h.keep.trans hk (by simp;exact hb g rfl)⟩;unfold ltOf at hxy;rw [decide_eq_false_iff_not,yfx] at hxy;grind
structure OF {α:Type} (enc:α→List Value) (e:TypeId) (k:Nat) (F:List Nat) (w0 w:World) (v:Value) (l:List α):Prop where
 row:w.ownsRow 0 e k v l.length (l.flatMap enc)
 base:∀ g,v.ownBlock=some g→w0.heap.size≤g
 keep:Keep F w0 w
section
variable {α:Type} {enc:α→List Value} {e:TypeId} {k:Nat} {F:List Nat} {w0 w w':World} {v:Value} {l:List α}
theorem OF.nil:OF enc e k F w w (.slice none 0 0) []:=⟨⟨by simp,.inl ⟨rfl,rfl⟩⟩,by simp [Value.ownBlock],Keep.refl _ _⟩
theorem OF.oe (h:OF enc e k F w0 w v l):∃ w1,w1.heap.size=w0.heap.size∧Keep F w0 w1∧OE enc e k w1 w v l:=by
 have hs:=h.keep.size;have hsz:(w.heap.extract 0 w0.heap.size).size=w0.heap.size:=by simp;omega
 have hget:∀ j,j<w0.heap.size→(w.heap.extract 0 w0.heap.size)[j]? = w.heap[j]?:=fun j hj=>by
  rw [Array.getElem?_eq_getElem (by rw [hsz];exact hj),Array.getElem?_eq_getElem (by omega)];simp
 refine ⟨{ w with heap:=w.heap.extract 0 w0.heap.size },hsz,?_,h.row,?_,?_⟩
 ·exact ⟨h.keep.os,h.keep.tape,h.keep.output,by dsimp only;omega,h.keep.drawn,fun j hj hn=>by dsimp only;rw [hget j hj];exact h.keep.block j hj hn⟩
 ·intro g hg;dsimp only;rw [hsz];exact h.base g hg
 refine ⟨rfl,rfl,rfl,by dsimp only;omega,Nat.le_refl _,fun j hj _=>?_⟩;dsimp only at hj ⊢;rw [hsz] at hj;exact (hget j hj).symm
theorem OF.of {w1:World} (hs:w1.heap.size=w0.heap.size) (hk:Keep F w0 w1) (h:OE enc e k w1 w v l):OF enc e k F w0 w v l :=
 ⟨h.row,fun g hg=>by rw [← hs];exact h.base g hg,hk.trans h.keep (by simp)⟩
theorem OF.later (h:OF enc e k F w0 w v l) (hk:Keep [] w w'):OF enc e k F w0 w' v l:=⟨ycG h.row hk (by simp),h.base,h.keep.trans hk (by simp)⟩
theorem OF.set {G:List Nat} (h:OF enc e k F w0 w v l) (hk:Keep G w w') (hG:∀ g∈G,g∈F∧g<w0.heap.size):OF enc e k F w0 w' v l :=
 ⟨ycG h.row hk (fun g hg hm=>by have:=h.base g hg;have:=(hG g hm).2;omega),h.base,h.keep.trans hk (fun x hx=>.inl (hG x hx).1)⟩
theorem OF.form (h:OF enc e k F w0 w v l):∃ po pc,v = .slice po l.length pc:=yeK h.row
theorem OF.read (h:OF enc e k F w0 w v l):RowE enc w v l:=by
 obtain⟨w1,_,_,h1⟩:=h.oe;exact h1.read
end
abbrev OFI:=OF (fun i:Iv K=>icells i) 32 20
theorem OFI.app {ty:TypeId} {F:List Nat} {w0 w:World} {v y:Value} {l m:List (Iv K)} (h:OFI F w0 w v l) (hm:0<m.length) (hy:IvR w y m) (hb:l.length+m.length≤1000000000) :
  ∃ v' w',(Builtin.append_ #[22,22] ty #[v,y]).run Tryz.prog w = .ok v' w'∧OFI F w0 w' v' (l++m)∧∀ j o,j<w0.heap.size→w.heap[j]? = some o→w'.heap[j]? = some o:=by
 obtain⟨w1,hs,hk,h1⟩:=h.oe;obtain⟨v',w',hr,ho,_,hK⟩:=IvR.app (ty:=ty) h1 (.inr hm) hy hb;refine ⟨v',w',hr,OF.of hs hk ho,fun j o hj hg=>?_⟩;rcases hv:v.ownBlock with _|g
 ·exact (hK [] (fun g hg=>by rw [hv] at hg;cases hg)).heap hg (by simp)
 refine (hK [g] (fun x hx=>by rw [hv] at hx;injection hx with hx;simp [hx])).heap hg ?_;have:=h.base g hv;simp;omega
end
end Go.Proofs.YtpgffjjpiafhpaaGreatDoor
