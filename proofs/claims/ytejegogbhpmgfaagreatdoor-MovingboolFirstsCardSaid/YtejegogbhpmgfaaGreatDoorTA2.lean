/- Parts of a proof about this translation: Oq@2, Base@2, Nb@2, Pk@2, Sq@2, Ri@2, Ss@2, Pn@2, Ug@2, Uh@2, Vk@2, Vi@2, Me@2, Vo@2, Mo@2, Iz@2, Gb@2, H2@2. -/
import Derived.WalkKit
import Derived.WalkLawsBesides
import Derived.WalkSpells
import Derived.ProofKit
import Derived.OpenShut
import Derived.Handy
import Derived.BigQuiet
import Derived.Lib.Hide
import Derived.Deep.AppendSrc
import Derived.Lib.Builder
import Derived.Lib.AppendStr
import Derived.Lib.UnsafeStr
import Derived.Lib.Walk
import Derived.Lib.Strings
import Derived.Laws.Externs
import Derived.Sort.Grow
import Derived.Deep.Draws
import Derived.StillTail
import Derived.OrdersHeld
import Derived.Lib.ReflectliteSwap
import Derived.Deep.LoopGhost
import Derived.IntWalk
import Derived.Lib.SliceRun
import Derived.Test.YtejegogbhpmgfaaGreatDoorA01
import Derived.Test.YtejegogbhpmgfaaGreatDoorA02
import Derived.Test.YtejegogbhpmgfaaGreatDoorProg
import Derived.Test.YtejegogbhpmgfaaGreatDoorA13
import Derived.Test.YtejegogbhpmgfaaGreatDoorA12
import Derived.Test.YtejegogbhpmgfaaGreatDoorA10
import Derived.Test.YtejegogbhpmgfaaGreatDoorA31
import Derived.Test.YtejegogbhpmgfaaGreatDoorA30
import Derived.Test.YtejegogbhpmgfaaGreatDoorA32
import Derived.Test.YtejegogbhpmgfaaGreatDoorA26
import Derived.Test.YtejegogbhpmgfaaGreatDoorA33
import Derived.Test.YtejegogbhpmgfaaGreatDoorA25
import Derived.Test.YtejegogbhpmgfaaGreatDoorA36
import Derived.Test.YtejegogbhpmgfaaGreatDoorA35
import Derived.Test.YtejegogbhpmgfaaGreatDoorA14
import Derived.Test.YtejegogbhpmgfaaGreatDoorA38
set_option linter.unusedVariables false
set_option linter.unusedSimpArgs false
set_option maxRecDepth 100000
set_option maxHeartbeats 8000000
namespace Go.Proofs.YtejegogbhpmgfaaGreatDoor
theorem Below1.mono {q q':Rat} {x:Qn} (hx:0≤x.r) (h:Below1 q x) (hq:q'≤q):Below1 q' x:=Pos.mono hx h (by grind)
end Go.Proofs.YtejegogbhpmgfaaGreatDoor
namespace Go.Proofs.YtejegogbhpmgfaaGreatDoor
open Go.RowKit
theorem Keep.below {F:List Nat} {w w':World} {B:Nat} (h:Keep F w w') (hF:∀ x∈F,B≤x) (hB:B≤w.heap.size):Below B w w' :=
 ⟨h.os,h.tape,h.output,h.size,fun k hk=>h.block k (by omega) (fun hm=>by have:=hF k hm;omega)⟩
theorem Keep.drewN (F:List Nat) (w:World) (n:Nat):Keep F w (w.drewN n):=⟨rfl,rfl,rfl,Nat.le_refl _,Nat.le_add_right _ _,fun _ _ _=>rfl⟩
section
variable {P:Program} {ops:Array Oper} {C:World→Prop} {Q:Act→Prop} {a:Act} {o:Oper} {rest:List Oper}
end
section
variable {P:Program} (w:World)
end
theorem RowR.lt {w:World} {sv:Value} {xs:List Value} (h:RowR w sv xs):∀ x∈rowF sv,x<w.heap.size:=by
 rcases h with ⟨rfl,_⟩|⟨g,o,c,rfl,hg,hc⟩
 ·simp [rowF]
 ·simpa [rowF] using hg
theorem RowR.elem {w:World} {sv:Value} {xs:List Value} (h:RowR w sv xs) (hn:0<xs.length):∃ g o c,sv = .slice (some ⟨g,o,none⟩) xs.length c∧∀ i v,xs[i]? = some v→w.cell? ⟨g,o+i,none⟩=some v:=by
 rcases h with ⟨rfl,rfl⟩|⟨g,o,c,rfl,hg,hc⟩
 ·simp at hn
 ·exact ⟨g,o,c,rfl,hc⟩
end Go.Proofs.YtejegogbhpmgfaaGreatDoor
namespace Go.Proofs.YtejegogbhpmgfaaGreatDoor
open Go.RowKit
section
variable {P:Program} {ops:Array Oper} {md:Region.Mode} {C:World→Prop}
end
end Go.Proofs.YtejegogbhpmgfaaGreatDoor
namespace Go.Proofs.YtejegogbhpmgfaaGreatDoor
open Go.RowKit
section
variable {P:Program} {ops:Array Oper} {md:Region.Mode} {S:World→Prop} {Q:Exit→Act→World→Prop}
end
end Go.Proofs.YtejegogbhpmgfaaGreatDoor
namespace Go.Proofs.YtejegogbhpmgfaaGreatDoor
open Go.RowKit
section
variable {P:Program} {ops:Array Oper} {md:Region.Mode} {S:World→Prop} {Q:Exit→Act→World→Prop}
end
end Go.Proofs.YtejegogbhpmgfaaGreatDoor
namespace Go.Proofs.YtejegogbhpmgfaaGreatDoor
open Go.RowKit
section
variable {P:Program} {ops:Array Oper} {md:Region.Mode} {C S:World→Prop}
variable {Q:Exit→Act→World→Prop}
end
end Go.Proofs.YtejegogbhpmgfaaGreatDoor
namespace Go.Proofs.YtejegogbhpmgfaaGreatDoor
theorem K.lt_def {x y:K}:x<y↔Lt x.1 y.1:=Iff.rfl
theorem K.le_def {x y:K}:x≤y ↔ ¬ Lt y.1 x.1:=Iff.rfl
end Go.Proofs.YtejegogbhpmgfaaGreatDoor
namespace Go.Proofs.YtejegogbhpmgfaaGreatDoor
open Go.RowKit
theorem IvAt.opf {w:World} {b o:Nat} {i:Iv K} (h:IvAt w b o i):w.cell? ⟨b,o+18,none⟩=some (.bool i.f.beh):=h 18 _ rfl
theorem OI.later {w0 w w':World} {v:Value} {l:List Nat} (h:OI w0 w v l) (hk:Keep [] w w'):OI w0 w' v l :=
 ⟨own_keep' h.row hk (by simp),h.base,h.keep.trans0 hk⟩
theorem IvAt.all {w:World} {b o:Nat} {i:Iv K} (h:IvAt w b o i):(w.cell? ⟨b,o,none⟩=some (.bool (sgB i.f.pt.1.p.num)))∧(w.cell? ⟨b,o+1,none⟩=some (.string (mgS i.f.pt.1.p.num)))∧(w.cell? ⟨b,o+2,none⟩=some (.bool false))∧(w.cell? ⟨b,o+3,none⟩=some (.string (dnS i.f.pt.1.p.den)))∧(w.cell? ⟨b,o+4,none⟩=some (.bool (sgB i.f.pt.1.r.num)))∧(w.cell? ⟨b,o+5,none⟩=some (.string (mgS i.f.pt.1.r.num)))∧(w.cell? ⟨b,o+6,none⟩=some (.bool false))∧(w.cell? ⟨b,o+7,none⟩=some (.string (dnS i.f.pt.1.r.den)))∧(w.cell? ⟨b,o+8,none⟩=some (.bool i.f.pt.1.neg))∧(w.cell? ⟨b,o+9,none⟩=some (.bool (sgB i.l.pt.1.p.num)))∧(w.cell? ⟨b,o+10,none⟩=some (.string (mgS i.l.pt.1.p.num)))∧(w.cell? ⟨b,o+11,none⟩=some (.bool false))∧(w.cell? ⟨b,o+12,none⟩=some (.string (dnS i.l.pt.1.p.den)))∧(w.cell? ⟨b,o+13,none⟩=some (.bool (sgB i.l.pt.1.r.num)))∧(w.cell? ⟨b,o+14,none⟩=some (.string (mgS i.l.pt.1.r.num)))∧(w.cell? ⟨b,o+15,none⟩=some (.bool false))∧(w.cell? ⟨b,o+16,none⟩=some (.string (dnS i.l.pt.1.r.den)))∧(w.cell? ⟨b,o+17,none⟩=some (.bool i.l.pt.1.neg))∧(w.cell? ⟨b,o+18,none⟩=some (.bool i.f.beh))∧(w.cell? ⟨b,o+19,none⟩=some (.bool (!i.l.beh))) :=
 ⟨h 0 _ rfl,h 1 _ rfl,h 2 _ rfl,h 3 _ rfl,h 4 _ rfl,h 5 _ rfl,h 6 _ rfl,h 7 _ rfl,h 8 _ rfl,h 9 _ rfl,h 10 _ rfl,h 11 _ rfl,h 12 _ rfl,h 13 _ rfl,h 14 _ rfl,h 15 _ rfl,h 16 _ rfl,h 17 _ rfl,h 18 _ rfl,h 19 _ rfl⟩
theorem KAt.all {w:World} {b o:Nat} {x:K} (h:KAt w b o x.1):(w.cell? ⟨b,o,none⟩=some (.bool (sgB x.1.p.num)))∧(w.cell? ⟨b,o+1,none⟩=some (.string (mgS x.1.p.num)))∧(w.cell? ⟨b,o+2,none⟩=some (.bool false))∧(w.cell? ⟨b,o+3,none⟩=some (.string (dnS x.1.p.den)))∧(w.cell? ⟨b,o+4,none⟩=some (.bool (sgB x.1.r.num)))∧(w.cell? ⟨b,o+5,none⟩=some (.string (mgS x.1.r.num)))∧(w.cell? ⟨b,o+6,none⟩=some (.bool false))∧(w.cell? ⟨b,o+7,none⟩=some (.string (dnS x.1.r.den)))∧(w.cell? ⟨b,o+8,none⟩=some (.bool x.1.neg)) :=
 ⟨h 0 _ rfl,h 1 _ rfl,h 2 _ rfl,h 3 _ rfl,h 4 _ rfl,h 5 _ rfl,h 6 _ rfl,h 7 _ rfl,h 8 _ rfl⟩
section
variable {α:Type} (enc:α→List Value)
variable {enc}
theorem OE.step {e:TypeId} {k:Nat} {w0 wr wa:World} {v:Value} {l:List α} (h:OE enc e k w0 wr v l) {g cap:Nat} {x:α} {o:Obj} (hoa:wa.ownsRow 0 e k (.slice (some ⟨g,0,none⟩) (l.length+1) cap) (l.length+1) (l.flatMap enc++enc x))
  (hga:(wr.alloc o).grownBy wa v.ownBlock) (hfa:some g=v.ownBlock∨wr.heap.size+1≤g) (hda:(wr.alloc o).drawn≤wa.drawn) :
  OE enc e k w0 wa (.slice (some ⟨g,0,none⟩) (l.length+1) cap) (l++[x]):=by
 refine ⟨?_,?_,?_⟩
 ·rw [List.flatMap_append,List.length_append]
  simpa using hoa
 ·intro k hk
  simp [Value.ownBlock] at hk
  subst hk
  rcases hfa with h1|h1
  ·exact h.base _ h1.symm
  ·have:=h.keep.size
   omega
 ·exact (h.keep.allocPast _).grownPast hga hda (fun k hk=>h.base k hk)
end
end Go.Proofs.YtejegogbhpmgfaaGreatDoor
namespace Go.Proofs.YtejegogbhpmgfaaGreatDoor
theorem PtsIn.sub {S:List K} {l m:List (Iv K)} (h:PtsIn S l) (hm:∀ i∈m,i∈l):PtsIn S m:=fun i hi=>h i (hm i hi)
theorem NormF.of {l:List (Iv K)}:∀ {b:Bd K},(∀ i∈l,b<i.f)→(∀ i∈l,i.f<i.l)→l.Pairwise (fun i j=>i.l<j.f)→NormF l b:=by
 induction l with
 | nil=>intro b _ _ _;trivial
 | cons i l ih =>
  intro b h1 h2 h3
  obtain⟨h4,h5⟩:=List.pairwise_cons.1 h3
  exact ⟨h1 i (by simp),h2 i (by simp),ih h4 (fun j hj=>h2 j (by simp [hj])) h5⟩
theorem Norm.of {l:List (Iv K)} (h2:∀ i∈l,i.f<i.l) (h3:l.Pairwise (fun i j=>i.l<j.f)):Norm l:=by
 cases l with
 | nil=>trivial
 | cons i l =>
  obtain⟨h4,h5⟩:=List.pairwise_cons.1 h3
  exact ⟨h2 i (by simp),NormF.of h4 (fun j hj=>h2 j (by simp [hj])) h5⟩
theorem Per.nil (S:List K):Per S []:=⟨trivial,PtsIn.nil S⟩
end Go.Proofs.YtejegogbhpmgfaaGreatDoor
namespace Go.Proofs.YtejegogbhpmgfaaGreatDoor
open Go.RowKit
open Classical
structure RawR where
 a1:Bool
 a2:ByteArray
 a3:Bool
 a4:ByteArray
 b1:Bool
 b2:ByteArray
 b3:Bool
 b4:ByteArray
 n:Bool
def RawR.cells (x:RawR):List Value:=[.bool x.a1,.string x.a2,.bool x.a3,.string x.a4,.bool x.b1,.string x.b2,.bool x.b3,.string x.b4,.bool x.n]
def RawR.v (x:RawR):Value:=.agg #[.bool x.a1,.string x.a2,.bool x.a3,.string x.a4,.bool x.b1,.string x.b2,.bool x.b3,.string x.b4,.bool x.n]
def RawR.of (x:Qn):RawR:=⟨sgB x.p.num,mgS x.p.num,false,dnS x.p.den,sgB x.r.num,mgS x.r.num,false,dnS x.r.den,x.neg⟩
theorem MI.get {w0 w:World} {L:List (Value × List (Iv K))} (h:MI w0 w L) (v:Value) (l:List (Iv K)) (hm:(v,l)∈L):IvR w v l:=h.2 (v,l) hm
end Go.Proofs.YtejegogbhpmgfaaGreatDoor
namespace Go.Proofs.YtejegogbhpmgfaaGreatDoor
open Go.RowKit
def MQ (W u:World) (l:List (Value × List (Iv K))) (bs:List (Nat × Obj)):Prop:=Keep [] W u∧(∀ p∈l,IvR u p.1 p.2)∧∀ b∈bs,u.heap[b.1]? = some b.2∧W.heap.size≤b.1
theorem MQ.start {W u:World} (h:Keep [] W u):MQ W u [] []:=⟨h,by simp,by simp⟩
theorem MQ.move {W u u':World} {l:List (Value × List (Iv K))} {bs:List (Nat × Obj)} (h:MQ W u l bs) (hk:Keep [] u u'):MQ W u' l bs :=
 ⟨h.1.trans0 hk,fun p hp=>(h.2.1 p hp).later hk,fun b hb=>⟨hk.heap (h.2.2 b hb).1 (by simp),(h.2.2 b hb).2⟩⟩
theorem MQ.add {W u u':World} {l:List (Value × List (Iv K))} {bs:List (Nat × Obj)} (h:MQ W u l bs) (hk:Keep [] u u') {v:Value} {m:List (Iv K)} (hv:IvR u' v m):MQ W u' ((v,m) :: l) bs:=by
 obtain⟨a1,a2,a3⟩:=h.move hk
 refine ⟨a1,fun p hp=>?_,a3⟩
 rcases List.mem_cons.1 hp with rfl|hp
 ·exact hv
 ·exact a2 p hp
theorem MQ.new' {W u:World} {l:List (Value × List (Iv K))} {bs:List (Nat × Obj)} (h:MQ W u l bs) (z:Obj):∃ u' g,u.alloc z=u'∧u.heap.size=g∧MQ W u' l ((g,z) :: bs):=by
 have hk:=Keep.alloc [] u z
 obtain⟨a1,a2,a3⟩:=h.move hk
 refine ⟨_,_,rfl,rfl,a1,a2,fun b hb=>?_⟩
 rcases List.mem_cons.1 hb with rfl|hb
 ·exact ⟨World.alloc_heap_new u z,h.1.size⟩
 ·exact a3 b hb
theorem MQ.put {W u u':World} {l:List (Value × List (Iv K))} {g:Nat} {cs:Array Value} {t:TypeId} {o:Obj} (h:MQ W u l [(g,.cells cs t)]) (hs:cs.size<20) (hb:u'.heap[g]? = some o) (hk:Keep [g] u u'):MQ W u' l [(g,o)]:=by
 obtain⟨a1,a2,a3⟩:=h
 have hg:=a3 (g,.cells cs t) (by simp)
 refine ⟨a1.trans hk (by simp;exact hg.2),fun p hp=>(a2 p hp).laterBox hg.1 hs hk,fun b hb'=>?_⟩
 simp at hb'
 subst hb'
 exact ⟨hb,hg.2⟩
theorem MQ.get {W u:World} {l:List (Value × List (Iv K))} {bs:List (Nat × Obj)} (h:MQ W u l bs) (v:Value) (m:List (Iv K)) (hm:(v,m)∈l):IvR u v m:=h.2.1 (v,m) hm
end Go.Proofs.YtejegogbhpmgfaaGreatDoor
namespace Go.Proofs.YtejegogbhpmgfaaGreatDoor
open Go.RowKit
open Classical
theorem flat_mid (a b:List (Iv K)) (s t:Iv K) (hf:t.f.beh=s.f.beh) (hl:t.l.beh=s.l.beh):setL (setL ((a++s :: b).flatMap fun i=>icells i) (a.length*20) (kcells t.f.pt.1)) (a.length*20+9) (kcells t.l.pt.1)=(a++t :: b).flatMap fun i=>icells i:=by
 have ha:(a.flatMap fun i=>icells i).length=a.length*20:=flat_len (fun i:Iv K=>icells i) icells_len a
 rw [List.flatMap_append,List.flatMap_append,List.flatMap_cons,List.flatMap_cons]
 generalize (a.flatMap fun i=>icells i)=F at *
 generalize (b.flatMap fun i=>icells i)=G at *
 have step:∀ (G vs:List Value) (j:Nat),setL (F++G) (F.length+j) vs=F++setL G j vs:=fun G vs j=>by
  unfold setL
  rw [List.take_length_add_append,Nat.add_assoc,List.drop_length_add_append,List.append_assoc,List.append_assoc,List.append_assoc]
 rw [← ha]
 have e0:setL (F++(icells s++G)) F.length (kcells t.f.pt.1)=F++setL (icells s++G) 0 (kcells t.f.pt.1):=step _ _ 0
 rw [e0,step]
 congr 1
 unfold icells
 rw [hf,hl]
 rfl
theorem OI_.setm {w0 w:World} {g n c:Nat} {a b:List (Iv K)} {s t:Iv K} (hf:t.f.beh=s.f.beh) (hl:t.l.beh=s.l.beh) (h:OI_ w0 w (.slice (some ⟨g,0,none⟩) n c) (a++s :: b)) :
  OI_ w0 ((w.setCells g (a.length*20) (kcells t.f.pt.1)).setCells g (a.length*20+9) (kcells t.l.pt.1)) (.slice (some ⟨g,0,none⟩) n c) (a++t :: b):=by
 have hr:=h.row
 have hlen:(a++s :: b).length=(a++t :: b).length:=by simp
 have hbig:a.length+1≤(a++s :: b).length:=by simp
 have hn:n=(a++s :: b).length:=by
  obtain⟨po,pc,e⟩:=h.form
  injection e
 subst hn
 rw [hlen] at *
 obtain⟨h1,k1⟩:=own_setCells hr (o:=a.length*20) (vs:=kcells t.f.pt.1) (by rw [kcells_len];omega)
 obtain⟨h2,k2⟩:=own_setCells h1 (o:=a.length*20+9) (vs:=kcells t.l.pt.1) (by rw [kcells_len];omega)
 rw [flat_mid a b s t hf hl] at h2
 have hg:=h.base g rfl
 exact ⟨h2,h.base,(h.keep.trans k1 (by simp;exact hg)).trans k2 (by simp;exact hg)⟩
section
variable {S:List K} {w0 w w' W:World} {L M:List (Value × List (Iv K))}
theorem MP.sub (h:MP S w0 w L) (hs:∀ p∈M,p∈L):MP S w0 w M:=⟨⟨h.mi.1,fun p hp=>h.mi.2 p (hs p hp)⟩,fun p hp=>h.per p (hs p hp),h.few⟩
variable {v u:Value} {a b:List (Iv K)}
end
section
variable {S:List K} {w0 w:World} {L:List (Value × List (Iv K))} {D T E U P:List (Iv K)} {da ta ea ua pa:Option Addr} {dc tc ec uc pc:Nat}
end
theorem kZ_C:kC kZ = #[.bool false,.string ⟨#[]⟩,.bool false,.string ⟨#[]⟩,.bool false,.string ⟨#[]⟩,.bool false,.string ⟨#[]⟩,.bool false]:=by
 have h1:sgB (0:Rat).num=false:=by decide
 have h2:mgS (0:Rat).num=⟨#[]⟩:=mg_empty.2 rfl
 have h3:dnS (0:Rat).den=⟨#[]⟩:=by unfold dnS;rfl
 unfold kC kZ kcells
 dsimp only
 rw [h1,h2,h3]
theorem kZ_built:Tryz.prog.built 36 []=some (kC kZ):=by
 rw [kZ_C]
 kernel_rfl
section
variable {S:List K} {w0 w w' W:World} {L M:List (Value × List (Iv K))} {D T E U P:List (Iv K)} {da ta ea ua pa:Option Addr} {dc tc ec uc pc:Nat}
theorem MP.nilFirst (h:MP S w0 w L):Calls Tryz.prog 24 #[.agg #[.slice da D.length dc,.slice ta 0 tc]] w (FLPost S w0 L kZ false 10):=by
 have H0:=jX h
 clear h
 go_enter Tryz.func24,Tryz.ntmps24
 go_upto_region 1 with (fail)
 obtain⟨W,ga,gb,hW,ega,egb,bga,bgb,hga,hgb,hgW,hkW⟩:=al2 w (.cells #[.slice da D.length dc,.slice ta 0 tc] 29) (.cells #[.bool false,.string ⟨#[]⟩,.bool false,.string ⟨#[]⟩,.bool false,.string ⟨#[]⟩,.bool false,.string ⟨#[]⟩,.bool false] 36)
 rw [← hW]
 try rw [egb]
 try rw [ega]
 have Bga:=jX bga
 have Bgb:=jX bgb
 have HkW:=jX hkW
 clear hW hkW ega egb bga bgb
 have pga:=cell_of Bga.out
 go_upto_region 2 with (fail)
 refine wp_region_lit ?_
 refine wpList_R (v:=.agg (kC kZ)) (by rfl) (exec_build _ #[] #[] _ rfl (by simp) kZ_built) (fun K hK=>?_)
 go_simp
 refine hK _ _ ?_
 clear hK K
 refine wpList_rowK (by rfl) _ _ _ rfl gb (kC kZ) rfl rfl _ _ Bgb.out (by exact k_size) (by rfl) (all_oneCell_toArray (kcells_one kZ.1)) (fun K hK=>?_)
 obtain⟨W4,e4,b4,k4⟩:=setRow_at (cs:=kC kZ) Bgb.out
 rw [e4]
 go_simp
 refine hK _ _ ?_
 clear hK K e4
 have HkZ:=jX (HkW.out.trans k4 (by simp;omega))
 have HL:=jX (load_real W4 gb 0 (kZ).1 (kAt_box b4))
 clear b4 k4
 go_wp2_with fail
 refine bodyPost_ret (v:=.tuple #[kv kZ,.bool false,.int .i64 10]) ?_ rfl ⟨rfl,H0.out.move HkZ.out⟩
 rw [results_cell_tmp2 rfl]
 change ((loadVar 36 ⟨gb,0,none⟩).run Tryz.prog W4).andThen _=_
 rw [HL.out]
 rfl
theorem MP.nilLast (h:MP S w0 w L):Calls Tryz.prog 25 #[.agg #[.slice da D.length dc,.slice ta 0 tc]] w (FLPost S w0 L kZ false 10):=by
 have H0:=jX h
 clear h
 go_enter Tryz.func25,Tryz.ntmps25
 go_upto_region 1 with (fail)
 obtain⟨W,ga,gb,hW,ega,egb,bga,bgb,hga,hgb,hgW,hkW⟩:=al2 w (.cells #[.slice da D.length dc,.slice ta 0 tc] 29) (.cells #[.bool false,.string ⟨#[]⟩,.bool false,.string ⟨#[]⟩,.bool false,.string ⟨#[]⟩,.bool false,.string ⟨#[]⟩,.bool false] 36)
 rw [← hW]
 try rw [egb]
 try rw [ega]
 have Bga:=jX bga
 have Bgb:=jX bgb
 have HkW:=jX hkW
 clear hW hkW ega egb bga bgb
 have pga:=cell_of Bga.out
 go_upto_region 2 with (fail)
 refine wp_region_lit ?_
 refine wpList_R (v:=.agg (kC kZ)) (by rfl) (exec_build _ #[] #[] _ rfl (by simp) kZ_built) (fun K hK=>?_)
 go_simp
 refine hK _ _ ?_
 clear hK K
 refine wpList_rowK (by rfl) _ _ _ rfl gb (kC kZ) rfl rfl _ _ Bgb.out (by exact k_size) (by rfl) (all_oneCell_toArray (kcells_one kZ.1)) (fun K hK=>?_)
 obtain⟨W4,e4,b4,k4⟩:=setRow_at (cs:=kC kZ) Bgb.out
 rw [e4]
 go_simp
 refine hK _ _ ?_
 clear hK K e4
 have HkZ:=jX (HkW.out.trans k4 (by simp;omega))
 have HL:=jX (load_real W4 gb 0 (kZ).1 (kAt_box b4))
 clear b4 k4
 go_wp2_with fail
 refine bodyPost_ret (v:=.tuple #[kv kZ,.bool false,.int .i64 10]) ?_ rfl ⟨rfl,H0.out.move HkZ.out⟩
 rw [results_cell_tmp2 rfl]
 change ((loadVar 36 ⟨gb,0,none⟩).run Tryz.prog W4).andThen _=_
 rw [HL.out]
 rfl
theorem MP.first (h:MP S w0 w L) {i:Iv K} {r:List (Iv K)} (hT:(.slice ta (i :: r).length tc,i :: r)∈L):Calls Tryz.prog 24 #[.agg #[.slice da D.length dc,.slice ta (i :: r).length tc]] w (FLPost S w0 L i.f.pt (!i.f.beh) 0):=by
 obtain⟨g,o,rfl,hg,hat⟩:=IvR.elem (h.get hT) 0 (by simp)
 have hat:IvAt w g o i:=by simpa using hat
 have HAT:=jX (fun u (hk:Keep [] w u)=>hat.keep (hk.block g hg (by simp)))
 have H0:=jX h
 have Hlt0:(0:Int)<(((i :: r).length:Nat):Int):=by simp
 have hne:((((i :: r).length:Nat):Int) == 0)=false:=by rw [beq_eq_false_iff_ne,List.length_cons];omega
 have hlt:0<(i :: r).length:=by simp
 generalize (i :: r).length=n at *
 clear h hT hat
 go_enter Tryz.func24,Tryz.ntmps24
 go_upto_region 1 with (fail)
 obtain⟨W,ga,gb,hW,ega,egb,bga,bgb,hga,hgb,hgW,hkW⟩:=al2 w (.cells #[.slice da D.length dc,.slice (some ⟨g,o,none⟩) n tc] 29) (.cells #[.bool false,.string ⟨#[]⟩,.bool false,.string ⟨#[]⟩,.bool false,.string ⟨#[]⟩,.bool false,.string ⟨#[]⟩,.bool false] 36)
 rw [← hW]
 try rw [egb]
 try rw [ega]
 have Bga:=jX bga
 have Bgb:=jX bgb
 have HkW:=jX hkW
 clear hW hkW ega egb bga bgb
 have pga:=cell_of Bga.out
 go_upto_region 3 with (fail)
 clear pga
 refine wp_region_heldT (S:=fun u=>Keep [gb] W u) 12 (by kernel_rfl) (by kernel_rfl) (fun _ _ d _ _ h=>by cases d<;>exact h) ?_
 have hS0:=Keep.drew [gb] W
 have Bu:=jX ((Keep.drew [] W).heap Bgb.out (by simp))
 have HkU:=jX (HkW.out.trans0 (Keep.drew [] W))
 generalize World.drew W=u at *
 refine' jV (v:=_) 0 hS0 (fun w hw=>?hrunf0) (fun K hK=>?hnextf0)
 case hrunf0=>(skip;go_simp;try rfl)
 go_simp
 refine hK _ ?_
 clear hK K
 refine' jV (v:=_) 1 hS0 (fun w hw=>?hrunf1) (fun K hK=>?hnextf1)
 case hrunf1=>(have pga:=cell_of (hw.heap Bga.out (by simp;omega));go_simp;try rfl)
 go_simp
 refine hK _ ?_
 clear hK K
 refine' jV (v:=_) 2 hS0 (fun w hw=>?hrunf2) (fun K hK=>?hnextf2)
 case hrunf2=>(skip;go_simp;try rfl)
 go_simp
 refine hK _ ?_
 clear hK K
 refine' jV (v:=_) 3 hS0 (fun w hw=>?hrunf3) (fun K hK=>?hnextf3)
 case hrunf3=>(skip;go_simp;try rfl)
 go_simp
 refine hK _ ?_
 clear hK K
 refine jV (v:=.agg (kC i.f.pt)) 4 hS0 (fun w hw=>exec_load _ _ ⟨g,o,none⟩ _ rfl rfl (load_real _ g o i.f.pt.1 (HAT.out _ (HkW.out.trans hw (by simp;omega))).frm)) (fun K hK=>?_)
 go_simp
 refine hK _ ?_
 clear hK K
 refine' jV (v:=_) 5 hS0 (fun w hw=>?hrunf5) (fun K hK=>?hnextf5)
 case hrunf5=>(skip;go_simp;try rfl)
 go_simp
 refine hK _ ?_
 clear hK K
 refine' jV (v:=_) 6 hS0 (fun w hw=>?hrunf6) (fun K hK=>?hnextf6)
 case hrunf6=>(have pga:=cell_of (hw.heap Bga.out (by simp;omega));go_simp;try rfl)
 go_simp
 refine hK _ ?_
 clear hK K
 refine' jV (v:=_) 7 hS0 (fun w hw=>?hrunf7) (fun K hK=>?hnextf7)
 case hrunf7=>(skip;go_simp;try rfl)
 go_simp
 refine hK _ ?_
 clear hK K
 refine' jV (v:=_) 8 hS0 (fun w hw=>?hrunf8) (fun K hK=>?hnextf8)
 case hrunf8=>(skip;go_simp;try rfl)
 go_simp
 refine hK _ ?_
 clear hK K
 refine' jV (v:=_) 9 hS0 (fun w hw=>?hrunf9) (fun K hK=>?hnextf9)
 case hrunf9=>(have qf:=(HAT.out _ (HkW.out.trans hw (by simp;omega))).opf;go_simp;try rfl)
 go_simp
 refine hK _ ?_
 clear hK K
 refine' jV (v:=_) 10 hS0 (fun w hw=>?hrunf10) (fun K hK=>?hnextf10)
 case hrunf10=>(skip;go_simp;try rfl)
 go_simp
 refine hK _ ?_
 clear hK K
 refine jO 11 (fun K hK=>?_)
 refine wp_store_row _ _ _ rfl gb (kC i.f.pt) rfl rfl _ _ Bu.out (by exact k_size) (by rfl) (all_oneCell_toArray (kcells_one i.f.pt.1)) ?_
 obtain⟨W4,e4,b4,k4⟩:=setRow_at (cs:=kC i.f.pt) Bu.out
 rw [e4]
 go_simp
 refine hK _ _ (hS0.trans k4 (by simp)) ?_
 clear hK K e4
 refine ⟨by kernel_rfl,?_⟩
 simp only [List.drop_succ_cons,List.drop_zero]
 have HkZ:=jX (HkU.out.trans k4 (by simp;omega))
 have HL:=jX (load_real W4 gb 0 (i.f.pt).1 (kAt_box b4))
 clear b4 k4
 go_wp2_with fail
 refine bodyPost_ret (v:=.tuple #[kv i.f.pt,.bool (!i.f.beh),.int .i64 0]) ?_ rfl ⟨rfl,H0.out.move HkZ.out⟩
 rw [results_cell_tmp2 rfl]
 change ((loadVar 36 ⟨gb,0,none⟩).run Tryz.prog W4).andThen _=_
 rw [HL.out]
 rfl
end
end Go.Proofs.YtejegogbhpmgfaaGreatDoor
namespace Go.Proofs.YtejegogbhpmgfaaGreatDoor
open Go.RowKit
section
variable {P:Program} {ops:Array Oper} {Q:Exit→Act→World→Prop} {rest:List Oper} {o:Oper} {a:Act} {w:World}
theorem gWC (hw:Region.wanted o (yielded ops a.tmps)=true)
  (h:∀ K:Act→World→Prop,(∀ a w,wpList P ops Q rest a w→K a w)→o.wp P a w K Q):wpList P ops Q (o :: rest) a w:=by
 unfold wpList
 rw [if_pos hw]
 exact .inl (h _ fun _ _ h=>h)
theorem gWE (hw:Region.wanted o (yielded ops a.tmps)=true)
  (h:∃ v,(execOp a.eval o).run P w = .ok (.value v) w∧∀ K:Act→World→Prop,(∀ a w,wpList P ops Q rest a w→K a w)→K (a.put o.dst v) w):wpList P ops Q (o :: rest) a w:=by
 obtain⟨v,h1,h2⟩:=h
 exact gWC hw fun K hK=>wp_op v w h1 (h2 K hK)
theorem gWS (hw:Region.wanted o (yielded ops a.tmps)=false)
  (h:∀ K:Act→World→Prop,(∀ a w,wpList P ops Q rest a w→K a w)→K (a.put o.dst undef) w):wpList P ops Q (o :: rest) a w:=by
 unfold wpList
 rw [hw]
 exact h _ fun _ _ h=>h
end
end Go.Proofs.YtejegogbhpmgfaaGreatDoor
namespace Go.Proofs.YtejegogbhpmgfaaGreatDoor
open Go.RowKit
open Classical
section
variable {S:List K} {w0 w w' W:World} {L M:List (Value × List (Iv K))} {D T:List (Iv K)} {v:Value} {l:List (Iv K)} {da ta:Option Addr} {dc tc:Nat}
variable {E U:List (Iv K)} {ea ua:Option Addr} {ec uc:Nat}
variable (h:MP S w0 w L) (hD:(.slice da D.length dc,D)∈L) (hT:(.slice ta T.length tc,T)∈L)
include h hD hT
end
section
variable {S:List K} {w0 w:World} {L:List (Value × List (Iv K))} {D T:List (Iv K)} {da ta:Option Addr} {dc tc:Nat}
theorem MP.nilF (h:MP S w0 w L):Calls Tryz.prog 24 #[.agg #[.slice da D.length dc,.slice ta 0 tc]] w fun e w'=>e = .returned (.tuple #[.agg (kC kZ),.bool false,.int .i64 10])∧MP S w0 w' L:=h.nilFirst
theorem MP.nilL (h:MP S w0 w L):Calls Tryz.prog 25 #[.agg #[.slice da D.length dc,.slice ta 0 tc]] w fun e w'=>e = .returned (.tuple #[.agg (kC kZ),.bool false,.int .i64 10])∧MP S w0 w' L:=h.nilLast
theorem MP.firstT (h:MP S w0 w L) (hT:(.slice ta T.length tc,T)∈L) {i:Iv K} (hi:T[0]? = some i):Calls Tryz.prog 24 #[.agg #[.slice da D.length dc,.slice ta T.length tc]] w fun e w'=>e = .returned (.tuple #[.agg (kC i.f.pt),.bool (!i.f.beh),.int .i64 0])∧MP S w0 w' L:=by
 cases T with
 | nil=>cases hi
 | cons j r =>
  injection hi with hi
  subst hi
  exact h.first hT
theorem MP.lastT (h:MP S w0 w L) (hT:(.slice ta T.length tc,T)∈L) {m:Nat} (hm:T.length=m+1) {i:Iv K} (hi:T[m]? = some i):Calls Tryz.prog 25 #[.agg #[.slice da D.length dc,.slice ta T.length tc]] w fun e w'=>e = .returned (.tuple #[.agg (kC i.l.pt),.bool i.l.beh,.int .i64 0])∧MP S w0 w' L:=by
 have hl:m<T.length:=by omega
 rw [List.getElem?_eq_getElem hl] at hi
 injection hi with hi
 subst hi
 exact h.last hm hT
end
theorem movingboolFirsts_c (w:World) (v0:Value) (m0:MovArg w v0):Calls Tryz.prog 4 #[v0] w fun e w'=>e = .returned (.bool true)∧Keep [] w w':=by
 obtain⟨l0,q0,D0,T0,c0⟩:=movC_of m0
 have hS:(l0).length≤1000:=by omega
 have C0:=c0 (l0) (by simp +contextual)
 generalize l0=S at *
 obtain⟨ao0,an0,ac0,bo0,bn0,bc0,rfl⟩:=C0.form
 have nD0:=C0.nD
 have nT0:=C0.nT
 have sT0:=C0.sub
 have HC0:=jX C0
 clear m0 q0 c0 C0 l0
 go_enter Tryz.func4,Tryz.ntmps4
 go_upto_region 1 with (fail)
 obtain⟨W,ga,hW,ega,bga,hga,hgW,hkW⟩:=al1 w (.cells #[.slice ao0 an0 ac0,.slice bo0 bn0 bc0] 24)
 rw [← hW]
 try rw [ega]
 have Bga:=jX bga
 have HkW:=jX hkW
 clear hW hkW ega bga
 have HM:=jX (MP.start hS W)
 have HK:=jX HkW.out
 clear hS HkW
 have pga:=cell_of Bga.out
 go_wp2_with fail
 refine (HC0.out.call _ _ _ HK.out HM.out).mono ?_
 rintro e w1 ⟨da_w1,dc_w1,ta_w1,tc_w1,rfl,hm⟩
 dsimp only
 clear pga
 have hk:=hm.keep
 have HM:=jX hm.here
 have HK:=jX (HK.out.trans0 hk)
 have Bga:=jX (hk.heap Bga.out (by simp))
 clear hm hk
 have pga:=cell_of Bga.out
 go_upto_region 2 with (fail)
 clear pga
 obtain⟨w2,g3,e2,e3,b2,h2,_,hk⟩:=al1 w1 (.cells #[.slice da_w1 D0.length dc_w1,.slice ta_w1 T0.length tc_w1] 29)
 rw [← e2,e3]
 clear e2 e3
 have HM:=jX (HM.out.move hk).here
 have HK:=jX (HK.out.trans0 hk)
 have Bga:=jX (hk.heap Bga.out (by simp))
 have Bg3:=jX b2
 clear b2 h2 hk
 clear Bga HC0
 obtain hT|⟨m,hm⟩:T0=[]∨∃ m,T0.length=m+1:=by cases T0 with|nil=>exact .inl rfl|cons i r=>exact .inr ⟨r.length,rfl⟩
 ·subst hT
  refine wp_region_lit ?_
  have pg3:=cell_of Bg3.out
  refine' wpList_R (v:=_) (by rfl) (?hrunya) (fun K hK=>?hnextya)
  case hrunya=>(go_simp;try rfl)
  go_simp
  refine hK _ _ ?_
  clear hK K
  clear pg3
  refine wpList_plain (by rfl) (fun K hK=>?_)
  refine wp_enter 24 #[.agg #[.slice da_w1 D0.length dc_w1,.slice ta_w1 0 tc_w1]] (by go_simp) ?_
  refine (HM.out.nilF).mono ?_
  rintro e y1a ⟨rfl,hm9⟩
  have hk:=hm9.keep
  have HM:=jX hm9.here
  have HK:=jX (HK.out.trans0 hk)
  have Bg3:=jX (hk.heap Bg3.out (by simp))
  clear hm9 hk
  refine ⟨_,rfl,?_⟩
  go_simp
  refine hK _ _ ?_
  clear hK K
  refine' wpList_R (v:=_) (by rfl) (?hrunyb) (fun K hK=>?hnextyb)
  case hrunyb=>(go_simp;try rfl)
  go_simp
  refine hK _ _ ?_
  clear hK K
  refine' wpList_R (v:=_) (by rfl) (?hrunyc) (fun K hK=>?hnextyc)
  case hrunyc=>(go_simp;try rfl)
  go_simp
  refine hK _ _ ?_
  clear hK K
  refine' wpList_R (v:=_) (by rfl) (?hrunyd) (fun K hK=>?hnextyd)
  case hrunyd=>(go_simp;try rfl)
  go_simp
  refine hK _ _ ?_
  clear hK K
  refine' wpList_R (v:=_) (by rfl) (?hrunye) (fun K hK=>?hnextye)
  case hrunye=>(go_simp;try rfl)
  go_simp
  refine hK _ _ ?_
  clear hK K
  obtain⟨y1b,gy1,e2,e3,b2,hgt,_,hk2⟩:=al1 y1a (.cells #[.bool false,.string ⟨#[]⟩,.bool false,.string ⟨#[]⟩,.bool false,.string ⟨#[]⟩,.bool false,.string ⟨#[]⟩,.bool false] 36)
  refine wpList_K (v:=.pointer (some ⟨y1a.heap.size,0,none⟩)) (w':=y1a.alloc (.cells #[.bool false,.string ⟨#[]⟩,.bool false,.string ⟨#[]⟩,.bool false,.string ⟨#[]⟩,.bool false,.string ⟨#[]⟩,.bool false] 36)) (by rfl) (al_real _ _ _ rfl) (fun K hK=>?_)
  rw [← e2,e3]
  clear e2 e3
  go_simp
  refine hK _ _ ?_
  clear hK K
  refine wpList_rowK (by rfl) _ _ _ rfl gy1 (kC kZ) rfl rfl _ _ b2 (by exact k_size) (by rfl) (all_oneCell_toArray (kcells_one kZ.1)) (fun K hK=>?_)
  obtain⟨y1,e4,b4,k4⟩:=setRow_at (cs:=kC kZ) b2
  rw [e4]
  go_simp
  refine hK _ _ ?_
  clear hK K e4
  have hk:=hk2.trans k4 (by simp;omega)
  have HM:=jX (HM.out.move hk).here
  have HK:=jX (HK.out.trans0 hk)
  have Bg3:=jX (hk.heap Bg3.out (by simp))
  have Bgy1:=jX b4
  clear hk hk2 k4 b2 b4 hgt
  go_upto_region 3 with (fail)
  refine wp_region_lit ?_
  have pg3:=cell_of Bg3.out
  refine' wpList_R (v:=_) (by rfl) (?hrunza) (fun K hK=>?hnextza)
  case hrunza=>(go_simp;try rfl)
  go_simp
  refine hK _ _ ?_
  clear hK K
  clear pg3
  refine wpList_plain (by rfl) (fun K hK=>?_)
  refine wp_enter 25 #[.agg #[.slice da_w1 D0.length dc_w1,.slice ta_w1 0 tc_w1]] (by go_simp) ?_
  refine (HM.out.nilL).mono ?_
  rintro e y2a ⟨rfl,hm9⟩
  have hk:=hm9.keep
  have HM:=jX hm9.here
  have HK:=jX (HK.out.trans0 hk)
  have Bg3:=jX (hk.heap Bg3.out (by simp))
  have Bgy1:=jX (hk.heap Bgy1.out (by simp))
  clear hm9 hk
  refine ⟨_,rfl,?_⟩
  go_simp
  refine hK _ _ ?_
  clear hK K
  refine' wpList_R (v:=_) (by rfl) (?hrunzb) (fun K hK=>?hnextzb)
  case hrunzb=>(go_simp;try rfl)
  go_simp
  refine hK _ _ ?_
  clear hK K
  refine' wpList_R (v:=_) (by rfl) (?hrunzc) (fun K hK=>?hnextzc)
  case hrunzc=>(go_simp;try rfl)
  go_simp
  refine hK _ _ ?_
  clear hK K
  refine' wpList_R (v:=_) (by rfl) (?hrunzd) (fun K hK=>?hnextzd)
  case hrunzd=>(go_simp;try rfl)
  go_simp
  refine hK _ _ ?_
  clear hK K
  refine' wpList_R (v:=_) (by rfl) (?hrunze) (fun K hK=>?hnextze)
  case hrunze=>(go_simp;try rfl)
  go_simp
  refine hK _ _ ?_
  clear hK K
  obtain⟨y2b,gy2,e2,e3,b2,hgt,_,hk2⟩:=al1 y2a (.cells #[.bool false,.string ⟨#[]⟩,.bool false,.string ⟨#[]⟩,.bool false,.string ⟨#[]⟩,.bool false,.string ⟨#[]⟩,.bool false] 36)
  refine wpList_K (v:=.pointer (some ⟨y2a.heap.size,0,none⟩)) (w':=y2a.alloc (.cells #[.bool false,.string ⟨#[]⟩,.bool false,.string ⟨#[]⟩,.bool false,.string ⟨#[]⟩,.bool false,.string ⟨#[]⟩,.bool false] 36)) (by rfl) (al_real _ _ _ rfl) (fun K hK=>?_)
  rw [← e2,e3]
  clear e2 e3
  go_simp
  refine hK _ _ ?_
  clear hK K
  refine wpList_rowK (by rfl) _ _ _ rfl gy2 (kC kZ) rfl rfl _ _ b2 (by exact k_size) (by rfl) (all_oneCell_toArray (kcells_one kZ.1)) (fun K hK=>?_)
  obtain⟨y2,e4,b4,k4⟩:=setRow_at (cs:=kC kZ) b2
  rw [e4]
  go_simp
  refine hK _ _ ?_
  clear hK K e4
  have hk:=hk2.trans k4 (by simp;omega)
  have HM:=jX (HM.out.move hk).here
  have HK:=jX (HK.out.trans0 hk)
  have Bg3:=jX (hk.heap Bg3.out (by simp))
  have Bgy1:=jX (hk.heap Bgy1.out (by simp))
  have Bgy2:=jX b4
  clear hk hk2 k4 b2 b4 hgt
  go_upto_region 4 with (fail)
  refine wp_region_lit ?_
  refine gWC (by rfl) (fun K hK=>?_)
  refine wp_enter 20 #[] (by go_simp) ?_
  refine (known12_c _).mono ?_
  rintro e w3 ⟨rfl,hm⟩
  have hm:=HM.out.here.move hm
  have hk:=hm.keep
  have HM:=jX hm.here
  have HK:=jX (HK.out.trans0 hk)
  have Bg3:=jX (hk.heap Bg3.out (by simp))
  have Bgy1:=jX (hk.heap Bgy1.out (by simp))
  have Bgy2:=jX (hk.heap Bgy2.out (by simp))
  clear hm hk
  refine ⟨_,rfl,?_⟩
  go_simp
  refine hK _ _ ?_
  clear hK K
  first|(refine gWE (by rfl) ?_;refine ⟨?_,?_,fun K hK=>?_⟩;rotate_left 1;(go_simp;try rfl);go_simp;refine hK _ _ ?_;clear hK K)|(refine gWS (by rfl) (fun K hK=>?_);go_simp;refine hK _ _ ?_;clear hK K)
  go_upto_region 6 with (fail)
  have pg3:=cell_of Bg3.out
  go_upto_region 8 with (fail)
  clear pg3
  have HE:Hid (∀ w:World,(binOp .eql 36 (kv kZ) (kv kZ)).run Tryz.prog w = .ok (.bool true) w):=jX (fun w=>by rw [eqR_run];simp)
  refine wp_region_lit ?_
  first|(refine gWE (by rfl) ?_;refine ⟨?_,?_,fun K hK=>?_⟩;rotate_left 1;(go_simp;try rfl);go_simp;refine hK _ _ ?_;clear hK K)|(refine gWS (by rfl) (fun K hK=>?_);go_simp;refine hK _ _ ?_;clear hK K)
  first|(refine gWE (by rfl) ?_;refine ⟨?_,?_,fun K hK=>?_⟩;rotate_left 1;(go_simp;try rfl);go_simp;refine hK _ _ ?_;clear hK K)|(refine gWS (by rfl) (fun K hK=>?_);go_simp;refine hK _ _ ?_;clear hK K)
  first|(refine gWE (by rfl) ?_;refine ⟨?_,?_,fun K hK=>?_⟩;rotate_left 1;(go_simp;try rfl);go_simp;refine hK _ _ ?_;clear hK K)|(refine gWS (by rfl) (fun K hK=>?_);go_simp;refine hK _ _ ?_;clear hK K)
  first|(refine gWE (by rfl) ?_;refine ⟨?_,?_,fun K hK=>?_⟩;rotate_left 1;(go_simp;try rfl);go_simp;refine hK _ _ ?_;clear hK K)|(refine gWS (by rfl) (fun K hK=>?_);go_simp;refine hK _ _ ?_;clear hK K)
  first|(refine gWE (by rfl) ?_;refine ⟨?_,?_,fun K hK=>?_⟩;rotate_left 1;(go_simp;try rfl);go_simp;refine hK _ _ ?_;clear hK K)|(refine gWS (by rfl) (fun K hK=>?_);go_simp;refine hK _ _ ?_;clear hK K)
  first|(refine gWE (by rfl) ?_;refine ⟨?_,?_,fun K hK=>?_⟩;rotate_left 1;(go_simp;try rfl);go_simp;refine hK _ _ ?_;clear hK K)|(refine gWS (by rfl) (fun K hK=>?_);go_simp;refine hK _ _ ?_;clear hK K)
  first|(refine gWE (by rfl) ?_;refine ⟨?_,?_,fun K hK=>?_⟩;rotate_left 1;(go_simp;try rfl);go_simp;refine hK _ _ ?_;clear hK K)|(refine gWS (by rfl) (fun K hK=>?_);go_simp;refine hK _ _ ?_;clear hK K)
  first|(refine gWE (by rfl) ?_;refine ⟨?_,?_,fun K hK=>?_⟩;rotate_left 1;(go_simp;try rfl);go_simp;refine hK _ _ ?_;clear hK K)|(refine gWS (by rfl) (fun K hK=>?_);go_simp;refine hK _ _ ?_;clear hK K)
  first|(refine gWE (by rfl) ?_;refine ⟨?_,?_,fun K hK=>?_⟩;rotate_left 1;(go_simp;try rfl);go_simp;refine hK _ _ ?_;clear hK K)|(refine gWS (by rfl) (fun K hK=>?_);go_simp;refine hK _ _ ?_;clear hK K)
  first|(refine gWE (by rfl) ?_;refine ⟨?_,?_,fun K hK=>?_⟩;rotate_left 1;(go_simp;try rfl);go_simp;refine hK _ _ ?_;clear hK K)|(refine gWS (by rfl) (fun K hK=>?_);go_simp;refine hK _ _ ?_;clear hK K)
  first|(refine gWE (by rfl) ?_;refine ⟨?_,?_,fun K hK=>?_⟩;rotate_left 1;(go_simp;try rfl);go_simp;refine hK _ _ ?_;clear hK K)|(refine gWS (by rfl) (fun K hK=>?_);go_simp;refine hK _ _ ?_;clear hK K)
  first|(refine gWE (by rfl) ?_;refine ⟨?_,?_,fun K hK=>?_⟩;rotate_left 1;(go_simp;try rfl);go_simp;refine hK _ _ ?_;clear hK K)|(refine gWS (by rfl) (fun K hK=>?_);go_simp;refine hK _ _ ?_;clear hK K)
  first|(refine gWE (by rfl) ?_;refine ⟨?_,?_,fun K hK=>?_⟩;rotate_left 1;(go_simp;try rfl);go_simp;refine hK _ _ ?_;clear hK K)|(refine gWS (by rfl) (fun K hK=>?_);go_simp;refine hK _ _ ?_;clear hK K)
  first|(refine gWE (by rfl) ?_;refine ⟨?_,?_,fun K hK=>?_⟩;rotate_left 1;(go_simp;try rfl);go_simp;refine hK _ _ ?_;clear hK K)|(refine gWS (by rfl) (fun K hK=>?_);go_simp;refine hK _ _ ?_;clear hK K)
  first|(refine gWE (by rfl) ?_;refine ⟨?_,?_,fun K hK=>?_⟩;rotate_left 1;(go_simp;try rfl);go_simp;refine hK _ _ ?_;clear hK K)|(refine gWS (by rfl) (fun K hK=>?_);go_simp;refine hK _ _ ?_;clear hK K)
  refine gWE (by rfl) ⟨.agg (kC kZ),exec_load _ _ ⟨gy1,0,none⟩ _ rfl rfl (kw_k Bgy1.out ⟨_,Keep.refl _ _⟩),fun K hK=>?_⟩
  go_simp
  refine hK _ _ ?_
  clear hK K
  refine gWE (by rfl) ⟨.agg (kC kZ),exec_build _ #[] #[] _ rfl (by simp) kZ_built,fun K hK=>?_⟩
  go_simp
  refine hK _ _ ?_
  clear hK K
  refine gWE (by rfl) ⟨.bool true,exec_bin _ _ _ _ _ (kC kZ) (kC kZ) _ rfl rfl rfl eqR_g (HE.out _),fun K hK=>?_⟩
  go_simp
  refine hK _ _ ?_
  clear hK K
  first|(refine gWE (by rfl) ?_;refine ⟨?_,?_,fun K hK=>?_⟩;rotate_left 1;(go_simp;try rfl);go_simp;refine hK _ _ ?_;clear hK K)|(refine gWS (by rfl) (fun K hK=>?_);go_simp;refine hK _ _ ?_;clear hK K)
  first|(refine gWE (by rfl) ?_;refine ⟨?_,?_,fun K hK=>?_⟩;rotate_left 1;(go_simp;try rfl);go_simp;refine hK _ _ ?_;clear hK K)|(refine gWS (by rfl) (fun K hK=>?_);go_simp;refine hK _ _ ?_;clear hK K)
  refine gWE (by rfl) ⟨.agg (kC kZ),exec_load _ _ ⟨gy2,0,none⟩ _ rfl rfl (kw_k Bgy2.out ⟨_,Keep.refl _ _⟩),fun K hK=>?_⟩
  go_simp
  refine hK _ _ ?_
  clear hK K
  refine gWE (by rfl) ⟨.agg (kC kZ),exec_build _ #[] #[] _ rfl (by simp) kZ_built,fun K hK=>?_⟩
  go_simp
  refine hK _ _ ?_
  clear hK K
  refine gWE (by rfl) ⟨.bool true,exec_bin _ _ _ _ _ (kC kZ) (kC kZ) _ rfl rfl rfl eqR_g (HE.out _),fun K hK=>?_⟩
  go_simp
  refine hK _ _ ?_
  clear hK K
  first|(refine gWE (by rfl) ?_;refine ⟨?_,?_,fun K hK=>?_⟩;rotate_left 1;(go_simp;try rfl);go_simp;refine hK _ _ ?_;clear hK K)|(refine gWS (by rfl) (fun K hK=>?_);go_simp;refine hK _ _ ?_;clear hK K)
  first|(refine gWE (by rfl) ?_;refine ⟨?_,?_,fun K hK=>?_⟩;rotate_left 1;(go_simp;try rfl);go_simp;refine hK _ _ ?_;clear hK K)|(refine gWS (by rfl) (fun K hK=>?_);go_simp;refine hK _ _ ?_;clear hK K)
  go_wp2_with fail
  go_ret
  exact ⟨rfl,HK.out⟩
 ·obtain⟨i,hi⟩:∃ i,T0[0]? = some i:=⟨_,List.getElem?_eq_getElem (by omega)⟩
  obtain⟨j,hj⟩:∃ j,T0[m]? = some j:=⟨_,List.getElem?_eq_getElem (by omega)⟩
  have Hm:=jX hm
  have Hi:=jX hi
  have Hj:=jX hj
  clear hm hi hj
  refine wp_region_lit ?_
  have pg3:=cell_of Bg3.out
  refine' wpList_R (v:=_) (by rfl) (?hrunua) (fun K hK=>?hnextua)
  case hrunua=>(go_simp;try rfl)
  go_simp
  refine hK _ _ ?_
  clear hK K
  clear pg3
  refine wpList_plain (by rfl) (fun K hK=>?_)
  refine wp_enter 24 #[.agg #[.slice da_w1 D0.length dc_w1,.slice ta_w1 T0.length tc_w1]] (by go_simp) ?_
  refine (HM.out.firstT (ma 1 rfl) Hi.out).mono ?_
  rintro e y1a ⟨rfl,hm9⟩
  have hk:=hm9.keep
  have HM:=jX hm9.here
  have HK:=jX (HK.out.trans0 hk)
  have Bg3:=jX (hk.heap Bg3.out (by simp))
  clear hm9 hk
  refine ⟨_,rfl,?_⟩
  go_simp
  refine hK _ _ ?_
  clear hK K
  refine' wpList_R (v:=_) (by rfl) (?hrunub) (fun K hK=>?hnextub)
  case hrunub=>(go_simp;try rfl)
  go_simp
  refine hK _ _ ?_
  clear hK K
  refine' wpList_R (v:=_) (by rfl) (?hrunuc) (fun K hK=>?hnextuc)
  case hrunuc=>(go_simp;try rfl)
  go_simp
  refine hK _ _ ?_
  clear hK K
  refine' wpList_R (v:=_) (by rfl) (?hrunud) (fun K hK=>?hnextud)
  case hrunud=>(go_simp;try rfl)
  go_simp
  refine hK _ _ ?_
  clear hK K
  refine' wpList_R (v:=_) (by rfl) (?hrunue) (fun K hK=>?hnextue)
  case hrunue=>(go_simp;try rfl)
  go_simp
  refine hK _ _ ?_
  clear hK K
  obtain⟨y1b,gy1,e2,e3,b2,hgt,_,hk2⟩:=al1 y1a (.cells #[.bool false,.string ⟨#[]⟩,.bool false,.string ⟨#[]⟩,.bool false,.string ⟨#[]⟩,.bool false,.string ⟨#[]⟩,.bool false] 36)
  refine wpList_K (v:=.pointer (some ⟨y1a.heap.size,0,none⟩)) (w':=y1a.alloc (.cells #[.bool false,.string ⟨#[]⟩,.bool false,.string ⟨#[]⟩,.bool false,.string ⟨#[]⟩,.bool false,.string ⟨#[]⟩,.bool false] 36)) (by rfl) (al_real _ _ _ rfl) (fun K hK=>?_)
  rw [← e2,e3]
  clear e2 e3
  go_simp
  refine hK _ _ ?_
  clear hK K
  refine wpList_rowK (by rfl) _ _ _ rfl gy1 (kC i.f.pt) rfl rfl _ _ b2 (by exact k_size) (by rfl) (all_oneCell_toArray (kcells_one i.f.pt.1)) (fun K hK=>?_)
  obtain⟨y1,e4,b4,k4⟩:=setRow_at (cs:=kC i.f.pt) b2
  rw [e4]
  go_simp
  refine hK _ _ ?_
  clear hK K e4
  have hk:=hk2.trans k4 (by simp;omega)
  have HM:=jX (HM.out.move hk).here
  have HK:=jX (HK.out.trans0 hk)
  have Bg3:=jX (hk.heap Bg3.out (by simp))
  have Bgy1:=jX b4
  clear hk hk2 k4 b2 b4 hgt
  go_upto_region 3 with (fail)
  refine wp_region_lit ?_
  have pg3:=cell_of Bg3.out
  refine' wpList_R (v:=_) (by rfl) (?hrunva) (fun K hK=>?hnextva)
  case hrunva=>(go_simp;try rfl)
  go_simp
  refine hK _ _ ?_
  clear hK K
  clear pg3
  refine wpList_plain (by rfl) (fun K hK=>?_)
  refine wp_enter 25 #[.agg #[.slice da_w1 D0.length dc_w1,.slice ta_w1 T0.length tc_w1]] (by go_simp) ?_
  refine (HM.out.lastT (ma 1 rfl) Hm.out Hj.out).mono ?_
  rintro e y2a ⟨rfl,hm9⟩
  have hk:=hm9.keep
  have HM:=jX hm9.here
  have HK:=jX (HK.out.trans0 hk)
  have Bg3:=jX (hk.heap Bg3.out (by simp))
  have Bgy1:=jX (hk.heap Bgy1.out (by simp))
  clear hm9 hk
  refine ⟨_,rfl,?_⟩
  go_simp
  refine hK _ _ ?_
  clear hK K
  refine' wpList_R (v:=_) (by rfl) (?hrunvb) (fun K hK=>?hnextvb)
  case hrunvb=>(go_simp;try rfl)
  go_simp
  refine hK _ _ ?_
  clear hK K
  refine' wpList_R (v:=_) (by rfl) (?hrunvc) (fun K hK=>?hnextvc)
  case hrunvc=>(go_simp;try rfl)
  go_simp
  refine hK _ _ ?_
  clear hK K
  refine' wpList_R (v:=_) (by rfl) (?hrunvd) (fun K hK=>?hnextvd)
  case hrunvd=>(go_simp;try rfl)
  go_simp
  refine hK _ _ ?_
  clear hK K
  refine' wpList_R (v:=_) (by rfl) (?hrunve) (fun K hK=>?hnextve)
  case hrunve=>(go_simp;try rfl)
  go_simp
  refine hK _ _ ?_
  clear hK K
  obtain⟨y2b,gy2,e2,e3,b2,hgt,_,hk2⟩:=al1 y2a (.cells #[.bool false,.string ⟨#[]⟩,.bool false,.string ⟨#[]⟩,.bool false,.string ⟨#[]⟩,.bool false,.string ⟨#[]⟩,.bool false] 36)
  refine wpList_K (v:=.pointer (some ⟨y2a.heap.size,0,none⟩)) (w':=y2a.alloc (.cells #[.bool false,.string ⟨#[]⟩,.bool false,.string ⟨#[]⟩,.bool false,.string ⟨#[]⟩,.bool false,.string ⟨#[]⟩,.bool false] 36)) (by rfl) (al_real _ _ _ rfl) (fun K hK=>?_)
  rw [← e2,e3]
  clear e2 e3
  go_simp
  refine hK _ _ ?_
  clear hK K
  refine wpList_rowK (by rfl) _ _ _ rfl gy2 (kC j.l.pt) rfl rfl _ _ b2 (by exact k_size) (by rfl) (all_oneCell_toArray (kcells_one j.l.pt.1)) (fun K hK=>?_)
  obtain⟨y2,e4,b4,k4⟩:=setRow_at (cs:=kC j.l.pt) b2
  rw [e4]
  go_simp
  refine hK _ _ ?_
  clear hK K e4
  have hk:=hk2.trans k4 (by simp;omega)
  have HM:=jX (HM.out.move hk).here
  have HK:=jX (HK.out.trans0 hk)
  have Bg3:=jX (hk.heap Bg3.out (by simp))
  have Bgy1:=jX (hk.heap Bgy1.out (by simp))
  have Bgy2:=jX b4
  clear hk hk2 k4 b2 b4 hgt
  go_upto_region 4 with (fail)
  refine wp_region_lit ?_
  refine gWC (by rfl) (fun K hK=>?_)
  refine wp_enter 20 #[] (by go_simp) ?_
  refine (known12_c _).mono ?_
  rintro e w3 ⟨rfl,hm⟩
  have hm:=HM.out.here.move hm
  have hk:=hm.keep
  have HM:=jX hm.here
  have HK:=jX (HK.out.trans0 hk)
  have Bg3:=jX (hk.heap Bg3.out (by simp))
  have Bgy1:=jX (hk.heap Bgy1.out (by simp))
  have Bgy2:=jX (hk.heap Bgy2.out (by simp))
  clear hm hk
  refine ⟨_,rfl,?_⟩
  go_simp
  refine hK _ _ ?_
  clear hK K
  first|(refine gWE (by rfl) ?_;refine ⟨?_,?_,fun K hK=>?_⟩;rotate_left 1;(go_simp;try rfl);go_simp;refine hK _ _ ?_;clear hK K)|(refine gWS (by rfl) (fun K hK=>?_);go_simp;refine hK _ _ ?_;clear hK K)
  have hl:=HM.out.len (ma 1 rfl)
  obtain⟨ge,oe,h1,hg,hat⟩:=IvR.elem (HM.out.get (ma 1 rfl)) 0 (by rw [Hm.out];omega)
  obtain⟨ge2,oe2,h2,_,hat2⟩:=IvR.elem (HM.out.get (ma 1 rfl)) m (by rw [Hm.out];omega)
  subst h1
  injection h2 with h2
  injection h2 with h3 h4
  subst h3 h4
  have l0:0<T0.length:=by rw [Hm.out];omega
  have lm:m<T0.length:=by rw [Hm.out];omega
  have e1:T0[0]=i:=by have:=Hi.out;rw [List.getElem?_eq_getElem l0] at this;injection this
  have e2:T0[m]=j:=by have:=Hj.out;rw [List.getElem?_eq_getElem lm] at this;injection this
  rw [e1,Nat.zero_mul,Nat.add_zero] at hat
  rw [e2] at hat2
  clear e1 e2 l0 lm
  obtain⟨p,hp⟩:∃ p,oe+m*20=p:=⟨_,rfl⟩
  rw [hp] at hat2
  have hm:=Hm.out
  clear Hi Hj HM Hm
  generalize hn:T0.length=n at *
  clear hn
  have HA:=jX (fun u (hk:Keep [] w3 u)=>hat.keep (hk.block ge hg (by simp)))
  have HB:=jX (fun u (hk:Keep [] w3 u)=>hat2.keep (hk.block ge hg (by simp)))
  clear hat hat2 hg
  have hwr:IntKind.i64.wrap (m:Int)=(m:Int):=IntWalk.i64_in _ (by omega)
  have hm0:(0:Int)≤(m:Int):=by omega
  have htn:((m:Int)).toNat=m:=by omega
  have Hlt0:(0:Int)<(n:Int):=by omega
  have Hlt:(m:Int)<(n:Int):=by omega
  have hsub:(n:Int)-1=(m:Int):=by omega
  have hne:((n:Int) == 0)=false:=by rw [beq_eq_false_iff_ne];omega
  have hlt:m<n:=by omega
  have hlt0:0<n:=by omega
  clear hm
  go_upto_region 6 with (fail)
  have pg3:=cell_of Bg3.out
  go_upto_region 9 with (fail)
  clear pg3
  have HE:Hid (∀ x:K,∀ w:World,(binOp .eql 36 (kv x) (kv x)).run Tryz.prog w = .ok (.bool true) w):=jX (fun x w=>by rw [eqR_run];simp)
  refine wp_region_heldT (S:=fun u=>Keep [] w3 u) 48 (by kernel_rfl) (by kernel_rfl) (fun _ _ d _ _ h=>by cases d<;>exact h) ?_
  have hS0:=Keep.drew [] w3
  generalize World.drew w3=u at *
  refine' jG (v:=_) 0 hS0 (fun w hw=>?hrunz0) (fun K hK=>?hnextz0)
  case hrunz0=>(skip;go_simp;try rfl)
  go_simp
  refine hK _ ?_
  clear hK K
  refine' jG (v:=_) 1 hS0 (fun w hw=>?hrunz1) (fun K hK=>?hnextz1)
  case hrunz1=>(skip;go_simp;try rfl)
  go_simp
  refine hK _ ?_
  clear hK K
  refine' jG (v:=_) 2 hS0 (fun w hw=>?hrunz2) (fun K hK=>?hnextz2)
  case hrunz2=>(skip;go_simp;try rfl)
  go_simp
  refine hK _ ?_
  clear hK K
  refine' jG (v:=_) 3 hS0 (fun w hw=>?hrunz3) (fun K hK=>?hnextz3)
  case hrunz3=>(skip;go_simp;try rfl)
  go_simp
  refine hK _ ?_
  clear hK K
  refine' jG (v:=_) 4 hS0 (fun w hw=>?hrunz4) (fun K hK=>?hnextz4)
  case hrunz4=>(skip;go_simp;try rfl)
  go_simp
  refine hK _ ?_
  clear hK K
  refine' jG (v:=_) 5 hS0 (fun w hw=>?hrunz5) (fun K hK=>?hnextz5)
  case hrunz5=>(skip;go_simp;try rfl)
  go_simp
  refine hK _ ?_
  clear hK K
  refine' jG (v:=_) 6 hS0 (fun w hw=>?hrunz6) (fun K hK=>?hnextz6)
  case hrunz6=>(skip;go_simp;try rfl)
  go_simp
  refine hK _ ?_
  clear hK K
  refine jG (v:=.agg (kC i.f.pt)) 7 hS0 (fun w hw=>exec_load _ _ ⟨gy1,0,none⟩ _ rfl rfl (load_real _ _ _ _ (kAt_box (hw.heap Bgy1.out (by simp))))) (fun K hK=>?_)
  go_simp
  refine hK _ ?_
  clear hK K
  refine' jG (v:=_) 8 hS0 (fun w hw=>?hrunz8) (fun K hK=>?hnextz8)
  case hrunz8=>(skip;go_simp;try rfl)
  go_simp
  refine hK _ ?_
  clear hK K
  refine' jG (v:=_) 9 hS0 (fun w hw=>?hrunz9) (fun K hK=>?hnextz9)
  case hrunz9=>(have pg3:=cell_of (hw.heap Bg3.out (by simp));go_simp;try rfl)
  go_simp
  refine hK _ ?_
  clear hK K
  refine' jG (v:=_) 10 hS0 (fun w hw=>?hrunz10) (fun K hK=>?hnextz10)
  case hrunz10=>(skip;go_simp;try rfl)
  go_simp
  refine hK _ ?_
  clear hK K
  refine' jG (v:=_) 11 hS0 (fun w hw=>?hrunz11) (fun K hK=>?hnextz11)
  case hrunz11=>(skip;go_simp;try rfl)
  go_simp
  refine hK _ ?_
  clear hK K
  refine jG (v:=.agg (kC i.f.pt)) 12 hS0 (fun w hw=>exec_load _ _ ⟨ge,oe,none⟩ _ rfl rfl (load_real _ ge oe i.f.pt.1 (HA.out w hw).frm)) (fun K hK=>?_)
  go_simp
  refine hK _ ?_
  clear hK K
  refine jG (v:=.bool true) 13 hS0 (fun w hw=>exec_bin _ _ _ _ _ (kC i.f.pt) (kC i.f.pt) _ rfl rfl rfl eqR_g (HE.out _ w)) (fun K hK=>?_)
  go_simp
  refine hK _ ?_
  clear hK K
  refine' jG (v:=_) 14 hS0 (fun w hw=>?hrunz14) (fun K hK=>?hnextz14)
  case hrunz14=>(skip;go_simp;try rfl)
  go_simp
  refine hK _ ?_
  clear hK K
  refine' jG (v:=_) 15 hS0 (fun w hw=>?hrunz15) (fun K hK=>?hnextz15)
  case hrunz15=>(skip;go_simp;try rfl)
  go_simp
  refine hK _ ?_
  clear hK K
  refine' jG (v:=_) 16 hS0 (fun w hw=>?hrunz16) (fun K hK=>?hnextz16)
  case hrunz16=>(skip;go_simp;try rfl)
  go_simp
  refine hK _ ?_
  clear hK K
  refine' jG (v:=_) 17 hS0 (fun w hw=>?hrunz17) (fun K hK=>?hnextz17)
  case hrunz17=>(skip;go_simp;try rfl)
  go_simp
  refine hK _ ?_
  clear hK K
  refine' jG (v:=_) 18 hS0 (fun w hw=>?hrunz18) (fun K hK=>?hnextz18)
  case hrunz18=>(have pg3:=cell_of (hw.heap Bg3.out (by simp));go_simp;try rfl)
  go_simp
  refine hK _ ?_
  clear hK K
  refine' jG (v:=_) 19 hS0 (fun w hw=>?hrunz19) (fun K hK=>?hnextz19)
  case hrunz19=>(skip;go_simp;try rfl)
  go_simp
  refine hK _ ?_
  clear hK K
  refine' jG (v:=_) 20 hS0 (fun w hw=>?hrunz20) (fun K hK=>?hnextz20)
  case hrunz20=>(skip;go_simp;try rfl)
  go_simp
  refine hK _ ?_
  clear hK K
  refine' jG (v:=_) 21 hS0 (fun w hw=>?hrunz21) (fun K hK=>?hnextz21)
  case hrunz21=>(have qf:=(HA.out w hw).opf;go_simp;try rfl)
  go_simp
  refine hK _ ?_
  clear hK K
  refine' jG (v:=_) 22 hS0 (fun w hw=>?hrunz22) (fun K hK=>?hnextz22)
  case hrunz22=>(skip;go_simp;try rfl)
  go_simp
  refine hK _ ?_
  clear hK K
  refine' jG (v:=_) 23 hS0 (fun w hw=>?hrunz23) (fun K hK=>?hnextz23)
  case hrunz23=>(skip;go_simp;try rfl)
  go_simp
  refine hK _ ?_
  clear hK K
  refine' jG (v:=_) 24 hS0 (fun w hw=>?hrunz24) (fun K hK=>?hnextz24)
  case hrunz24=>(skip;go_simp;try rfl)
  go_simp
  refine hK _ ?_
  clear hK K
  refine' jG (v:=_) 25 hS0 (fun w hw=>?hrunz25) (fun K hK=>?hnextz25)
  case hrunz25=>(skip;go_simp;try rfl)
  go_simp
  refine hK _ ?_
  clear hK K
  refine jG (v:=.agg (kC j.l.pt)) 26 hS0 (fun w hw=>exec_load _ _ ⟨gy2,0,none⟩ _ rfl rfl (load_real _ _ _ _ (kAt_box (hw.heap Bgy2.out (by simp))))) (fun K hK=>?_)
  go_simp
  refine hK _ ?_
  clear hK K
  refine' jG (v:=_) 27 hS0 (fun w hw=>?hrunz27) (fun K hK=>?hnextz27)
  case hrunz27=>(skip;go_simp;try rfl)
  go_simp
  refine hK _ ?_
  clear hK K
  refine' jG (v:=_) 28 hS0 (fun w hw=>?hrunz28) (fun K hK=>?hnextz28)
  case hrunz28=>(have pg3:=cell_of (hw.heap Bg3.out (by simp));go_simp;try rfl)
  go_simp
  refine hK _ ?_
  clear hK K
  refine' jG (v:=_) 29 hS0 (fun w hw=>?hrunz29) (fun K hK=>?hnextz29)
  case hrunz29=>(skip;go_simp;try rfl)
  go_simp
  refine hK _ ?_
  clear hK K
  refine' jG (v:=_) 30 hS0 (fun w hw=>?hrunz30) (fun K hK=>?hnextz30)
  case hrunz30=>(skip;go_simp;try rfl)
  go_simp
  refine hK _ ?_
  clear hK K
  refine' jG (v:=_) 31 hS0 (fun w hw=>?hrunz31) (fun K hK=>?hnextz31)
  case hrunz31=>(skip;go_simp;try rfl)
  go_simp
  refine hK _ ?_
  clear hK K
  refine' jG (v:=_) 32 hS0 (fun w hw=>?hrunz32) (fun K hK=>?hnextz32)
  case hrunz32=>(skip;go_simp;try rfl)
  go_simp
  refine hK _ ?_
  clear hK K
  refine jG (v:=.agg (kC j.l.pt)) 33 hS0 (fun w hw=>exec_load _ _ ⟨ge,p+9,none⟩ _ rfl rfl (load_real _ ge (p+9) j.l.pt.1 (HB.out w hw).upto)) (fun K hK=>?_)
  go_simp
  refine hK _ ?_
  clear hK K
  refine jG (v:=.bool true) 34 hS0 (fun w hw=>exec_bin _ _ _ _ _ (kC j.l.pt) (kC j.l.pt) _ rfl rfl rfl eqR_g (HE.out _ w)) (fun K hK=>?_)
  go_simp
  refine hK _ ?_
  clear hK K
  refine' jG (v:=_) 35 hS0 (fun w hw=>?hrunz35) (fun K hK=>?hnextz35)
  case hrunz35=>(skip;go_simp;try rfl)
  go_simp
  refine hK _ ?_
  clear hK K
  refine' jG (v:=_) 36 hS0 (fun w hw=>?hrunz36) (fun K hK=>?hnextz36)
  case hrunz36=>(skip;go_simp;try rfl)
  go_simp
  refine hK _ ?_
  clear hK K
  refine' jG (v:=_) 37 hS0 (fun w hw=>?hrunz37) (fun K hK=>?hnextz37)
  case hrunz37=>(skip;go_simp;try rfl)
  go_simp
  refine hK _ ?_
  clear hK K
  refine' jG (v:=_) 38 hS0 (fun w hw=>?hrunz38) (fun K hK=>?hnextz38)
  case hrunz38=>(skip;go_simp;try rfl)
  go_simp
  refine hK _ ?_
  clear hK K
  refine' jG (v:=_) 39 hS0 (fun w hw=>?hrunz39) (fun K hK=>?hnextz39)
  case hrunz39=>(have pg3:=cell_of (hw.heap Bg3.out (by simp));go_simp;try rfl)
  go_simp
  refine hK _ ?_
  clear hK K
  refine' jG (v:=_) 40 hS0 (fun w hw=>?hrunz40) (fun K hK=>?hnextz40)
  case hrunz40=>(skip;go_simp;try rfl)
  go_simp
  refine hK _ ?_
  clear hK K
  refine' jG (v:=_) 41 hS0 (fun w hw=>?hrunz41) (fun K hK=>?hnextz41)
  case hrunz41=>(skip;go_simp;try rfl)
  go_simp
  refine hK _ ?_
  clear hK K
  refine' jG (v:=_) 42 hS0 (fun w hw=>?hrunz42) (fun K hK=>?hnextz42)
  case hrunz42=>(skip;go_simp;try rfl)
  go_simp
  refine hK _ ?_
  clear hK K
  refine' jG (v:=_) 43 hS0 (fun w hw=>?hrunz43) (fun K hK=>?hnextz43)
  case hrunz43=>(skip;go_simp;try rfl)
  go_simp
  refine hK _ ?_
  clear hK K
  refine' jG (v:=_) 44 hS0 (fun w hw=>?hrunz44) (fun K hK=>?hnextz44)
  case hrunz44=>(have qf:=(HB.out w hw).opt;go_simp;try rfl)
  go_simp
  refine hK _ ?_
  clear hK K
  refine' jG (v:=_) 45 hS0 (fun w hw=>?hrunz45) (fun K hK=>?hnextz45)
  case hrunz45=>(skip;go_simp;try rfl)
  go_simp
  refine hK _ ?_
  clear hK K
  refine' jG (v:=_) 46 hS0 (fun w hw=>?hrunz46) (fun K hK=>?hnextz46)
  case hrunz46=>(skip;go_simp;try rfl)
  go_simp
  refine hK _ ?_
  clear hK K
  refine' jG (v:=_) 47 hS0 (fun w hw=>?hrunz47) (fun K hK=>?hnextz47)
  case hrunz47=>(skip;go_simp;try rfl)
  go_simp
  refine hK _ ?_
  clear hK K
  refine ⟨by kernel_rfl,?_⟩
  simp only [List.drop_succ_cons,List.drop_zero]
  have HK:=jX (HK.out.trans0 hS0)
  go_wp2_with fail
  go_ret
  exact ⟨rfl,HK.out⟩
end Go.Proofs.YtejegogbhpmgfaaGreatDoor
