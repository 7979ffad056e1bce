/- Parts of a proof about this translation: Oq@3, Base@3, Nb@3, Pk@3, Ri@3, Ss@3, Pn@3, Sx@3, Ug@3, Uh@3, Vd@3, Vk@3, Vi@3, Me@3, Mf@3, Mj@3, Ml@3, Mc@3, Mr@3, Ga@3, Gb@3, H3@3. -/
import Derived.WalkKit
import Derived.WalkLawsBesides
import Derived.WalkSpells
import Derived.ProofKit
import Derived.OpenShut
import Derived.Handy
import Derived.BigQuiet
import Derived.Lib.Hide
import Derived.Deep.AppendSrc
import Derived.Lib.Builder
import Derived.Lib.AppendStr
import Derived.Lib.UnsafeStr
import Derived.Lib.Walk
import Derived.Lib.Strings
import Derived.Laws.Externs
import Derived.Sort.Grow
import Derived.Deep.Draws
import Derived.StillTail
import Derived.OrdersHeld
import Derived.Deep.LoopGhost
import Derived.IntWalk
import Derived.Lib.SliceRun
import Derived.Test.YtejegogbhpmgfaaGreatDoorA01
import Derived.Test.YtejegogbhpmgfaaGreatDoorA02
import Derived.Test.YtejegogbhpmgfaaGreatDoorProg
import Derived.Test.YtejegogbhpmgfaaGreatDoorA13
import Derived.Test.YtejegogbhpmgfaaGreatDoorA12
import Derived.Test.YtejegogbhpmgfaaGreatDoorA10
import Derived.Test.YtejegogbhpmgfaaGreatDoorA31
import Derived.Test.YtejegogbhpmgfaaGreatDoorA30
import Derived.Test.YtejegogbhpmgfaaGreatDoorA32
import Derived.Test.YtejegogbhpmgfaaGreatDoorA26
import Derived.Test.YtejegogbhpmgfaaGreatDoorA33
import Derived.Test.YtejegogbhpmgfaaGreatDoorA25
import Derived.Test.YtejegogbhpmgfaaGreatDoorA34
import Derived.Test.YtejegogbhpmgfaaGreatDoorA35
import Derived.Test.YtejegogbhpmgfaaGreatDoorA36
import Derived.Test.YtejegogbhpmgfaaGreatDoorA37
import Derived.Test.YtejegogbhpmgfaaGreatDoorA38
set_option linter.unusedVariables false
set_option linter.unusedSimpArgs false
set_option maxRecDepth 100000
set_option maxHeartbeats 8000000
namespace Go.Proofs.YtejegogbhpmgfaaGreatDoor
theorem Below1.mono {q q':Rat} {x:Qn} (hx:0≤x.r) (h:Below1 q x) (hq:q'≤q):Below1 q' x:=Pos.mono hx h (by grind)
end Go.Proofs.YtejegogbhpmgfaaGreatDoor
namespace Go.Proofs.YtejegogbhpmgfaaGreatDoor
open Go.RowKit
theorem Keep.below {F:List Nat} {w w':World} {B:Nat} (h:Keep F w w') (hF:∀ x∈F,B≤x) (hB:B≤w.heap.size):Below B w w' :=
 ⟨h.os,h.tape,h.output,h.size,fun k hk=>h.block k (by omega) (fun hm=>by have:=hF k hm;omega)⟩
theorem Keep.drewN (F:List Nat) (w:World) (n:Nat):Keep F w (w.drewN n):=⟨rfl,rfl,rfl,Nat.le_refl _,Nat.le_add_right _ _,fun _ _ _=>rfl⟩
section
variable {P:Program} {ops:Array Oper} {C:World→Prop} {Q:Act→Prop} {a:Act} {o:Oper} {rest:List Oper}
end
section
variable {P:Program} (w:World)
end
theorem RowR.lt {w:World} {sv:Value} {xs:List Value} (h:RowR w sv xs):∀ x∈rowF sv,x<w.heap.size:=by
 rcases h with ⟨rfl,_⟩|⟨g,o,c,rfl,hg,hc⟩
 ·simp [rowF]
 ·simpa [rowF] using hg
theorem RowR.elem {w:World} {sv:Value} {xs:List Value} (h:RowR w sv xs) (hn:0<xs.length):∃ g o c,sv = .slice (some ⟨g,o,none⟩) xs.length c∧∀ i v,xs[i]? = some v→w.cell? ⟨g,o+i,none⟩=some v:=by
 rcases h with ⟨rfl,rfl⟩|⟨g,o,c,rfl,hg,hc⟩
 ·simp at hn
 ·exact ⟨g,o,c,rfl,hc⟩
end Go.Proofs.YtejegogbhpmgfaaGreatDoor
namespace Go.Proofs.YtejegogbhpmgfaaGreatDoor
open Go.RowKit
section
variable {P:Program} {ops:Array Oper} {md:Region.Mode} {C:World→Prop}
end
end Go.Proofs.YtejegogbhpmgfaaGreatDoor
namespace Go.Proofs.YtejegogbhpmgfaaGreatDoor
open Go.RowKit
section
variable {P:Program} {ops:Array Oper} {md:Region.Mode} {S:World→Prop} {Q:Exit→Act→World→Prop}
end
end Go.Proofs.YtejegogbhpmgfaaGreatDoor
namespace Go.Proofs.YtejegogbhpmgfaaGreatDoor
open Go.RowKit
section
variable {P:Program} {ops:Array Oper} {md:Region.Mode} {S:World→Prop} {Q:Exit→Act→World→Prop}
end
end Go.Proofs.YtejegogbhpmgfaaGreatDoor
namespace Go.Proofs.YtejegogbhpmgfaaGreatDoor
open Go.RowKit
section
variable {P:Program} {ops:Array Oper} {md:Region.Mode} {C S:World→Prop}
variable {Q:Exit→Act→World→Prop}
end
end Go.Proofs.YtejegogbhpmgfaaGreatDoor
namespace Go.Proofs.YtejegogbhpmgfaaGreatDoor
theorem K.lt_def {x y:K}:x<y↔Lt x.1 y.1:=Iff.rfl
theorem K.le_def {x y:K}:x≤y ↔ ¬ Lt y.1 x.1:=Iff.rfl
end Go.Proofs.YtejegogbhpmgfaaGreatDoor
namespace Go.Proofs.YtejegogbhpmgfaaGreatDoor
open Go.RowKit
theorem OI.later {w0 w w':World} {v:Value} {l:List Nat} (h:OI w0 w v l) (hk:Keep [] w w'):OI w0 w' v l :=
 ⟨own_keep' h.row hk (by simp),h.base,h.keep.trans0 hk⟩
theorem IvAt.all {w:World} {b o:Nat} {i:Iv K} (h:IvAt w b o i):(w.cell? ⟨b,o,none⟩=some (.bool (sgB i.f.pt.1.p.num)))∧(w.cell? ⟨b,o+1,none⟩=some (.string (mgS i.f.pt.1.p.num)))∧(w.cell? ⟨b,o+2,none⟩=some (.bool false))∧(w.cell? ⟨b,o+3,none⟩=some (.string (dnS i.f.pt.1.p.den)))∧(w.cell? ⟨b,o+4,none⟩=some (.bool (sgB i.f.pt.1.r.num)))∧(w.cell? ⟨b,o+5,none⟩=some (.string (mgS i.f.pt.1.r.num)))∧(w.cell? ⟨b,o+6,none⟩=some (.bool false))∧(w.cell? ⟨b,o+7,none⟩=some (.string (dnS i.f.pt.1.r.den)))∧(w.cell? ⟨b,o+8,none⟩=some (.bool i.f.pt.1.neg))∧(w.cell? ⟨b,o+9,none⟩=some (.bool (sgB i.l.pt.1.p.num)))∧(w.cell? ⟨b,o+10,none⟩=some (.string (mgS i.l.pt.1.p.num)))∧(w.cell? ⟨b,o+11,none⟩=some (.bool false))∧(w.cell? ⟨b,o+12,none⟩=some (.string (dnS i.l.pt.1.p.den)))∧(w.cell? ⟨b,o+13,none⟩=some (.bool (sgB i.l.pt.1.r.num)))∧(w.cell? ⟨b,o+14,none⟩=some (.string (mgS i.l.pt.1.r.num)))∧(w.cell? ⟨b,o+15,none⟩=some (.bool false))∧(w.cell? ⟨b,o+16,none⟩=some (.string (dnS i.l.pt.1.r.den)))∧(w.cell? ⟨b,o+17,none⟩=some (.bool i.l.pt.1.neg))∧(w.cell? ⟨b,o+18,none⟩=some (.bool i.f.beh))∧(w.cell? ⟨b,o+19,none⟩=some (.bool (!i.l.beh))) :=
 ⟨h 0 _ rfl,h 1 _ rfl,h 2 _ rfl,h 3 _ rfl,h 4 _ rfl,h 5 _ rfl,h 6 _ rfl,h 7 _ rfl,h 8 _ rfl,h 9 _ rfl,h 10 _ rfl,h 11 _ rfl,h 12 _ rfl,h 13 _ rfl,h 14 _ rfl,h 15 _ rfl,h 16 _ rfl,h 17 _ rfl,h 18 _ rfl,h 19 _ rfl⟩
theorem KAt.all {w:World} {b o:Nat} {x:K} (h:KAt w b o x.1):(w.cell? ⟨b,o,none⟩=some (.bool (sgB x.1.p.num)))∧(w.cell? ⟨b,o+1,none⟩=some (.string (mgS x.1.p.num)))∧(w.cell? ⟨b,o+2,none⟩=some (.bool false))∧(w.cell? ⟨b,o+3,none⟩=some (.string (dnS x.1.p.den)))∧(w.cell? ⟨b,o+4,none⟩=some (.bool (sgB x.1.r.num)))∧(w.cell? ⟨b,o+5,none⟩=some (.string (mgS x.1.r.num)))∧(w.cell? ⟨b,o+6,none⟩=some (.bool false))∧(w.cell? ⟨b,o+7,none⟩=some (.string (dnS x.1.r.den)))∧(w.cell? ⟨b,o+8,none⟩=some (.bool x.1.neg)) :=
 ⟨h 0 _ rfl,h 1 _ rfl,h 2 _ rfl,h 3 _ rfl,h 4 _ rfl,h 5 _ rfl,h 6 _ rfl,h 7 _ rfl,h 8 _ rfl⟩
section
variable {α:Type} (enc:α→List Value)
variable {enc}
theorem OE.step {e:TypeId} {k:Nat} {w0 wr wa:World} {v:Value} {l:List α} (h:OE enc e k w0 wr v l) {g cap:Nat} {x:α} {o:Obj} (hoa:wa.ownsRow 0 e k (.slice (some ⟨g,0,none⟩) (l.length+1) cap) (l.length+1) (l.flatMap enc++enc x))
  (hga:(wr.alloc o).grownBy wa v.ownBlock) (hfa:some g=v.ownBlock∨wr.heap.size+1≤g) (hda:(wr.alloc o).drawn≤wa.drawn) :
  OE enc e k w0 wa (.slice (some ⟨g,0,none⟩) (l.length+1) cap) (l++[x]):=by
 refine ⟨?_,?_,?_⟩
 ·rw [List.flatMap_append,List.length_append]
  simpa using hoa
 ·intro k hk
  simp [Value.ownBlock] at hk
  subst hk
  rcases hfa with h1|h1
  ·exact h.base _ h1.symm
  ·have:=h.keep.size
   omega
 ·exact (h.keep.allocPast _).grownPast hga hda (fun k hk=>h.base k hk)
end
end Go.Proofs.YtejegogbhpmgfaaGreatDoor
namespace Go.Proofs.YtejegogbhpmgfaaGreatDoor
theorem PtsIn.sub {S:List K} {l m:List (Iv K)} (h:PtsIn S l) (hm:∀ i∈m,i∈l):PtsIn S m:=fun i hi=>h i (hm i hi)
theorem NormF.of {l:List (Iv K)}:∀ {b:Bd K},(∀ i∈l,b<i.f)→(∀ i∈l,i.f<i.l)→l.Pairwise (fun i j=>i.l<j.f)→NormF l b:=by
 induction l with
 | nil=>intro b _ _ _;trivial
 | cons i l ih =>
  intro b h1 h2 h3
  obtain⟨h4,h5⟩:=List.pairwise_cons.1 h3
  exact ⟨h1 i (by simp),h2 i (by simp),ih h4 (fun j hj=>h2 j (by simp [hj])) h5⟩
theorem Norm.of {l:List (Iv K)} (h2:∀ i∈l,i.f<i.l) (h3:l.Pairwise (fun i j=>i.l<j.f)):Norm l:=by
 cases l with
 | nil=>trivial
 | cons i l =>
  obtain⟨h4,h5⟩:=List.pairwise_cons.1 h3
  exact ⟨h2 i (by simp),NormF.of h4 (fun j hj=>h2 j (by simp [hj])) h5⟩
theorem Per.nil (S:List K):Per S []:=⟨trivial,PtsIn.nil S⟩
end Go.Proofs.YtejegogbhpmgfaaGreatDoor
namespace Go.Proofs.YtejegogbhpmgfaaGreatDoor
open Go.RowKit
open Classical
theorem equal_c (l m:List (Iv K)) (w:World) (sv tv:Value) (hr:IvR w sv l) (hs:IvR w tv m) (h9:l.length≤1000000000) (h8:m.length≤1000000000) :
  Calls Tryz.prog 21 #[sv,tv] w fun e w'=>e = .returned (.bool (decide (l=m)))∧Keep [] w w':=by
 have HR:=jX hr
 have HS:=jX hs
 obtain⟨ao,ac,rfl,_⟩:=hr.form
 obtain⟨bo,bc,rfl,_⟩:=hs.form
 clear hr hs
 by_cases hlen:l.length=m.length
 ·have hne:((l.length:Int) != (m.length:Int))=false:=by rw [hlen];simp
  have Hlen:=jX hlen
  clear hlen
  go_enter Tryz.func21,Tryz.ntmps21
  go_wp2_with fail
  go_loopw [5] (fun c wr=>∃ k:Nat,k≤l.length∧c = .int .i64 (k:Int)∧l.take k=m.take k∧Keep [] w wr) (fun c _=>l.length-(intOf c).toNat)
  case atStart=>exact ⟨0,Nat.zero_le _,rfl,rfl,Keep.refl _ _⟩
  case round =>
   obtain⟨k,hk,rfl,heq,hkeep⟩:=hrel
   have Heq:=jX heq
   have HKr:=jX hkeep
   clear heq hkeep
   by_cases hlt:k<l.length
   ·have hlt2:k<m.length:=by rw [← Hlen.out];exact hlt
    obtain⟨g,o,rfl,hg,hat⟩:=IvR.elem (HR.out.later HKr.out) k hlt
    obtain⟨g2,o2,rfl,hg2,hat2⟩:=IvR.elem (HS.out.later HKr.out) k hlt2
    obtain⟨i,hi⟩:∃ i,l[k]=i:=⟨_,rfl⟩
    obtain⟨j,hj⟩:∃ j,m[k]=j:=⟨_,rfl⟩
    have Hi:=jX hi
    have Hj:=jX hj
    rw [hi] at hat
    rw [hj] at hat2
    clear hi hj
    obtain⟨p,hp⟩:∃ p,o+k*20=p:=⟨_,rfl⟩
    obtain⟨q,hq⟩:∃ q,o2+k*20=q:=⟨_,rfl⟩
    rw [hp] at hat
    rw [hq] at hat2
    have HLa:=jX (hat.ld hg)
    have HLb:=jX (hat2.ld hg2)
    have HN:=jX (neqI_run i j)
    clear hat hat2
    unfold iv at *
    generalize iC i=I at *
    generalize iC j=J at *
    by_cases hij:i=j
    ·rw [decide_eq_true hij] at HN
     have Hij:=jX hij
     clear hij
     go_wp2_with fail
     refine wp_region_keep (by kernel_rfl) (by kernel_rfl) ?_
     repeat (first
      | go_big_quiet_skip
      | (go_big_quiet_want;first
       | (refine quiet_load _ _ _ (.agg I) rfl rfl (by rintro _ ⟨m,rfl⟩;exact HLa.out m) ?_;go_simp;go_big_quiet_on)|(refine quiet_load _ _ _ (.agg J) rfl rfl (by rintro _ ⟨m,rfl⟩;exact HLb.out m) ?_;go_simp;go_big_quiet_on)|(refine quiet_bin _ _ _ _ _ _ _ (_) rfl rfl rfl eqI_g (by intro w;exact HN.out w) ?_;go_simp;go_big_quiet_on)
       | (go_big_quiet_op;first|go_big_quiet_on|go_big_quiet_call (first
        | fail))))
     refine wpQuiet_nil ?_
     rintro w1 ⟨⟨_,hk_w1⟩,rfl⟩
     clear HLa HLb HN
     have Hk1:=jX hk_w1
     clear hk_w1
     go_wp2_with fail
     go_roundw
     case rel=>exact ⟨k+1,by omega,congrArg (Value.int .i64) (by omega),by rw [List.take_succ_eq_append_getElem hlt,List.take_succ_eq_append_getElem hlt2,Heq.out,Hi.out,Hj.out,Hij.out],HKr.out.trans0 Hk1.out⟩
     case measure=>simp [intOf];omega
    ·rw [decide_eq_false hij] at HN
     have Hij:=jX hij
     clear hij
     go_wp2_with fail
     refine wp_region_keep (by kernel_rfl) (by kernel_rfl) ?_
     repeat (first
      | go_big_quiet_skip
      | (go_big_quiet_want;first
       | (refine quiet_load _ _ _ (.agg I) rfl rfl (by rintro _ ⟨m,rfl⟩;exact HLa.out m) ?_;go_simp;go_big_quiet_on)|(refine quiet_load _ _ _ (.agg J) rfl rfl (by rintro _ ⟨m,rfl⟩;exact HLb.out m) ?_;go_simp;go_big_quiet_on)|(refine quiet_bin _ _ _ _ _ _ _ (_) rfl rfl rfl eqI_g (by intro w;exact HN.out w) ?_;go_simp;go_big_quiet_on)
       | (go_big_quiet_op;first|go_big_quiet_on|go_big_quiet_call (first
        | fail))))
     refine wpQuiet_nil ?_
     rintro w1 ⟨⟨_,hk_w1⟩,rfl⟩
     clear HLa HLb HN
     have Hk1:=jX hk_w1
     clear hk_w1
     go_wp2_with fail
     go_ret
     have hno:l≠m:=fun e=>Hij.out (by rw [← Hi.out,← Hj.out];simp only [e])
     exact ⟨by rw [decide_eq_false hno];rfl,HKr.out.trans0 Hk1.out⟩
   ·obtain rfl:k=l.length:=by omega
    go_wp2_with fail
    go_ret
    have he:l=m:=by
     have:=Heq.out
     rw [List.take_length,Hlen.out,List.take_length] at this
     exact this
    exact ⟨by rw [decide_eq_true he];rfl,HKr.out⟩
 ·have hne:((l.length:Int) != (m.length:Int))=true:=by rw [bne_iff_ne];omega
  have hno:l≠m:=fun e=>hlen (by rw [e])
  rw [decide_eq_false hno]
  clear hno hlen
  go_enter Tryz.func21,Tryz.ntmps21
  go_wp2_with fail
  go_ret
  exact ⟨rfl,Keep.refl _ _⟩
structure RawR where
 a1:Bool
 a2:ByteArray
 a3:Bool
 a4:ByteArray
 b1:Bool
 b2:ByteArray
 b3:Bool
 b4:ByteArray
 n:Bool
def RawR.cells (x:RawR):List Value:=[.bool x.a1,.string x.a2,.bool x.a3,.string x.a4,.bool x.b1,.string x.b2,.bool x.b3,.string x.b4,.bool x.n]
def RawR.v (x:RawR):Value:=.agg #[.bool x.a1,.string x.a2,.bool x.a3,.string x.a4,.bool x.b1,.string x.b2,.bool x.b3,.string x.b4,.bool x.n]
def RawR.of (x:Qn):RawR:=⟨sgB x.p.num,mgS x.p.num,false,dnS x.p.den,sgB x.r.num,mgS x.r.num,false,dnS x.r.den,x.neg⟩
theorem MI.get {w0 w:World} {L:List (Value × List (Iv K))} (h:MI w0 w L) (v:Value) (l:List (Iv K)) (hm:(v,l)∈L):IvR w v l:=h.2 (v,l) hm
end Go.Proofs.YtejegogbhpmgfaaGreatDoor
namespace Go.Proofs.YtejegogbhpmgfaaGreatDoor
open Go.RowKit
open Go.ChangeShapes Go.WideShapes Go.ChangeAt
def InsArg (_:World) (v:Value):Prop:=∃ a:InsA,v=a.v
theorem InsArg_open {H:Type} {enc:TypeId × Value→H} {W:World} {v:Value} {base:Nat} {d:DataW H} {p:List MemPlace} (hv:Value.okWide Tryz.prog W .any base 26 v)
  (h:∃ m,DataW.trod enc Tryz.prog W 0 (fun _=>true) true m 26 v.cells.toList=some (d,p)):InsArg W v:=by
 obtain⟨m,hm⟩:=h
 obtain⟨a,ha⟩:=ins_trod hm
 exact ⟨a,agg_of_cells ha (by simp)⟩
end Go.Proofs.YtejegogbhpmgfaaGreatDoor
namespace Go.Proofs.YtejegogbhpmgfaaGreatDoor
open Go.RowKit
def MQ (W u:World) (l:List (Value × List (Iv K))) (bs:List (Nat × Obj)):Prop:=Keep [] W u∧(∀ p∈l,IvR u p.1 p.2)∧∀ b∈bs,u.heap[b.1]? = some b.2∧W.heap.size≤b.1
theorem MQ.start {W u:World} (h:Keep [] W u):MQ W u [] []:=⟨h,by simp,by simp⟩
theorem MQ.move {W u u':World} {l:List (Value × List (Iv K))} {bs:List (Nat × Obj)} (h:MQ W u l bs) (hk:Keep [] u u'):MQ W u' l bs :=
 ⟨h.1.trans0 hk,fun p hp=>(h.2.1 p hp).later hk,fun b hb=>⟨hk.heap (h.2.2 b hb).1 (by simp),(h.2.2 b hb).2⟩⟩
theorem MQ.add {W u u':World} {l:List (Value × List (Iv K))} {bs:List (Nat × Obj)} (h:MQ W u l bs) (hk:Keep [] u u') {v:Value} {m:List (Iv K)} (hv:IvR u' v m):MQ W u' ((v,m) :: l) bs:=by
 obtain⟨a1,a2,a3⟩:=h.move hk
 refine ⟨a1,fun p hp=>?_,a3⟩
 rcases List.mem_cons.1 hp with rfl|hp
 ·exact hv
 ·exact a2 p hp
theorem MQ.new' {W u:World} {l:List (Value × List (Iv K))} {bs:List (Nat × Obj)} (h:MQ W u l bs) (z:Obj):∃ u' g,u.alloc z=u'∧u.heap.size=g∧MQ W u' l ((g,z) :: bs):=by
 have hk:=Keep.alloc [] u z
 obtain⟨a1,a2,a3⟩:=h.move hk
 refine ⟨_,_,rfl,rfl,a1,a2,fun b hb=>?_⟩
 rcases List.mem_cons.1 hb with rfl|hb
 ·exact ⟨World.alloc_heap_new u z,h.1.size⟩
 ·exact a3 b hb
theorem MQ.put {W u u':World} {l:List (Value × List (Iv K))} {g:Nat} {cs:Array Value} {t:TypeId} {o:Obj} (h:MQ W u l [(g,.cells cs t)]) (hs:cs.size<20) (hb:u'.heap[g]? = some o) (hk:Keep [g] u u'):MQ W u' l [(g,o)]:=by
 obtain⟨a1,a2,a3⟩:=h
 have hg:=a3 (g,.cells cs t) (by simp)
 refine ⟨a1.trans hk (by simp;exact hg.2),fun p hp=>(a2 p hp).laterBox hg.1 hs hk,fun b hb'=>?_⟩
 simp at hb'
 subst hb'
 exact ⟨hb,hg.2⟩
theorem MQ.get {W u:World} {l:List (Value × List (Iv K))} {bs:List (Nat × Obj)} (h:MQ W u l bs) (v:Value) (m:List (Iv K)) (hm:(v,m)∈l):IvR u v m:=h.2.1 (v,m) hm
end Go.Proofs.YtejegogbhpmgfaaGreatDoor
namespace Go.Proofs.YtejegogbhpmgfaaGreatDoor
open Go.RowKit
open Classical
theorem flat_mid (a b:List (Iv K)) (s t:Iv K) (hf:t.f.beh=s.f.beh) (hl:t.l.beh=s.l.beh):setL (setL ((a++s :: b).flatMap fun i=>icells i) (a.length*20) (kcells t.f.pt.1)) (a.length*20+9) (kcells t.l.pt.1)=(a++t :: b).flatMap fun i=>icells i:=by
 have ha:(a.flatMap fun i=>icells i).length=a.length*20:=flat_len (fun i:Iv K=>icells i) icells_len a
 rw [List.flatMap_append,List.flatMap_append,List.flatMap_cons,List.flatMap_cons]
 generalize (a.flatMap fun i=>icells i)=F at *
 generalize (b.flatMap fun i=>icells i)=G at *
 have step:∀ (G vs:List Value) (j:Nat),setL (F++G) (F.length+j) vs=F++setL G j vs:=fun G vs j=>by
  unfold setL
  rw [List.take_length_add_append,Nat.add_assoc,List.drop_length_add_append,List.append_assoc,List.append_assoc,List.append_assoc]
 rw [← ha]
 have e0:setL (F++(icells s++G)) F.length (kcells t.f.pt.1)=F++setL (icells s++G) 0 (kcells t.f.pt.1):=step _ _ 0
 rw [e0,step]
 congr 1
 unfold icells
 rw [hf,hl]
 rfl
theorem OI_.setm {w0 w:World} {g n c:Nat} {a b:List (Iv K)} {s t:Iv K} (hf:t.f.beh=s.f.beh) (hl:t.l.beh=s.l.beh) (h:OI_ w0 w (.slice (some ⟨g,0,none⟩) n c) (a++s :: b)) :
  OI_ w0 ((w.setCells g (a.length*20) (kcells t.f.pt.1)).setCells g (a.length*20+9) (kcells t.l.pt.1)) (.slice (some ⟨g,0,none⟩) n c) (a++t :: b):=by
 have hr:=h.row
 have hlen:(a++s :: b).length=(a++t :: b).length:=by simp
 have hbig:a.length+1≤(a++s :: b).length:=by simp
 have hn:n=(a++s :: b).length:=by
  obtain⟨po,pc,e⟩:=h.form
  injection e
 subst hn
 rw [hlen] at *
 obtain⟨h1,k1⟩:=own_setCells hr (o:=a.length*20) (vs:=kcells t.f.pt.1) (by rw [kcells_len];omega)
 obtain⟨h2,k2⟩:=own_setCells h1 (o:=a.length*20+9) (vs:=kcells t.l.pt.1) (by rw [kcells_len];omega)
 rw [flat_mid a b s t hf hl] at h2
 have hg:=h.base g rfl
 exact ⟨h2,h.base,(h.keep.trans k1 (by simp;exact hg)).trans k2 (by simp;exact hg)⟩
section
variable {S:List K} {w0 w w' W:World} {L M:List (Value × List (Iv K))}
theorem MP.sub (h:MP S w0 w L) (hs:∀ p∈M,p∈L):MP S w0 w M:=⟨⟨h.mi.1,fun p hp=>h.mi.2 p (hs p hp)⟩,fun p hp=>h.per p (hs p hp),h.few⟩
variable {v u:Value} {a b:List (Iv K)}
theorem MP.eqd (h:MP S w0 w L) (hv:(v,a)∈L) (hu:(u,b)∈L):Calls Tryz.prog 21 #[v,u] w (BoolPost S w0 L (decide (a=b))) :=
 boolPost_of h (equal_c a b w v u (h.get hv) (h.get hu) (by have:=h.len hv;omega) (by have:=h.len hu;omega))
end
section
variable {S:List K} {w0 w:World} {L:List (Value × List (Iv K))} {D T E U P:List (Iv K)} {da ta ea ua pa:Option Addr} {dc tc ec uc pc:Nat}
end
theorem sequal_c (l m:List (Iv K)) (w:World) (sv tv:Value) (hr:IvR w sv l) (hs:IvR w tv m) (h9:l.length≤1000000000) (h8:m.length≤1000000000) :
  Calls Tryz.prog 124 #[sv,tv] w fun e w'=>e = .returned (.bool (decide (l=m)))∧Keep [] w w':=by
 have HR:=jX hr
 have HS:=jX hs
 obtain⟨ao,ac,rfl,_⟩:=hr.form
 obtain⟨bo,bc,rfl,_⟩:=hs.form
 clear hr hs
 by_cases hlen:l.length=m.length
 ·have hne:((l.length:Int) != (m.length:Int))=false:=by rw [hlen];simp
  have Hlen:=jX hlen
  clear hlen
  go_enter Tryz.func124,Tryz.ntmps124
  go_wp2_with fail
  go_loopw [13] (fun c wr=>∃ k:Nat,k≤l.length∧c = .int .i64 (k:Int)∧l.take k=m.take k∧Keep [] w wr) (fun c _=>l.length-(intOf c).toNat)
  case atStart=>exact ⟨0,Nat.zero_le _,rfl,rfl,Keep.refl _ _⟩
  case round =>
   obtain⟨k,hk,rfl,heq,hkeep⟩:=hrel
   have Heq:=jX heq
   have HKr:=jX hkeep
   clear heq hkeep
   by_cases hlt:k<l.length
   ·have hlt2:k<m.length:=by rw [← Hlen.out];exact hlt
    obtain⟨g,o,rfl,hg,hat⟩:=IvR.elem (HR.out.later HKr.out) k hlt
    obtain⟨g2,o2,rfl,hg2,hat2⟩:=IvR.elem (HS.out.later HKr.out) k hlt2
    obtain⟨i,hi⟩:∃ i,l[k]=i:=⟨_,rfl⟩
    obtain⟨j,hj⟩:∃ j,m[k]=j:=⟨_,rfl⟩
    have Hi:=jX hi
    have Hj:=jX hj
    rw [hi] at hat
    rw [hj] at hat2
    clear hi hj
    obtain⟨p,hp⟩:∃ p,o+k*20=p:=⟨_,rfl⟩
    obtain⟨q,hq⟩:∃ q,o2+k*20=q:=⟨_,rfl⟩
    rw [hp] at hat
    rw [hq] at hat2
    have HLa:=jX (hat.ld hg)
    have HLb:=jX (hat2.ld hg2)
    have HN:=jX (neqI_run i j)
    clear hat hat2
    unfold iv at *
    generalize iC i=I at *
    generalize iC j=J at *
    by_cases hij:i=j
    ·rw [decide_eq_true hij] at HN
     have Hij:=jX hij
     clear hij
     go_wp2_with fail
     refine wp_region_keep (by kernel_rfl) (by kernel_rfl) ?_
     repeat (first
      | go_big_quiet_skip
      | (go_big_quiet_want;first
       | (refine quiet_load _ _ _ (.agg I) rfl rfl (by rintro _ ⟨m,rfl⟩;exact HLa.out m) ?_;go_simp;go_big_quiet_on)|(refine quiet_load _ _ _ (.agg J) rfl rfl (by rintro _ ⟨m,rfl⟩;exact HLb.out m) ?_;go_simp;go_big_quiet_on)|(refine quiet_bin _ _ _ _ _ _ _ (_) rfl rfl rfl eqI_g (by intro w;exact HN.out w) ?_;go_simp;go_big_quiet_on)
       | (go_big_quiet_op;first|go_big_quiet_on|go_big_quiet_call (first
        | fail))))
     refine wpQuiet_nil ?_
     rintro w1 ⟨⟨_,hk_w1⟩,rfl⟩
     clear HLa HLb HN
     have Hk1:=jX hk_w1
     clear hk_w1
     go_wp2_with fail
     go_roundw
     case rel=>exact ⟨k+1,by omega,congrArg (Value.int .i64) (by omega),by rw [List.take_succ_eq_append_getElem hlt,List.take_succ_eq_append_getElem hlt2,Heq.out,Hi.out,Hj.out,Hij.out],HKr.out.trans0 Hk1.out⟩
     case measure=>simp [intOf];omega
    ·rw [decide_eq_false hij] at HN
     have Hij:=jX hij
     clear hij
     go_wp2_with fail
     refine wp_region_keep (by kernel_rfl) (by kernel_rfl) ?_
     repeat (first
      | go_big_quiet_skip
      | (go_big_quiet_want;first
       | (refine quiet_load _ _ _ (.agg I) rfl rfl (by rintro _ ⟨m,rfl⟩;exact HLa.out m) ?_;go_simp;go_big_quiet_on)|(refine quiet_load _ _ _ (.agg J) rfl rfl (by rintro _ ⟨m,rfl⟩;exact HLb.out m) ?_;go_simp;go_big_quiet_on)|(refine quiet_bin _ _ _ _ _ _ _ (_) rfl rfl rfl eqI_g (by intro w;exact HN.out w) ?_;go_simp;go_big_quiet_on)
       | (go_big_quiet_op;first|go_big_quiet_on|go_big_quiet_call (first
        | fail))))
     refine wpQuiet_nil ?_
     rintro w1 ⟨⟨_,hk_w1⟩,rfl⟩
     clear HLa HLb HN
     have Hk1:=jX hk_w1
     clear hk_w1
     go_wp2_with fail
     go_ret
     have hno:l≠m:=fun e=>Hij.out (by rw [← Hi.out,← Hj.out];simp only [e])
     exact ⟨by rw [decide_eq_false hno];rfl,HKr.out.trans0 Hk1.out⟩
   ·obtain rfl:k=l.length:=by omega
    go_wp2_with fail
    go_ret
    have he:l=m:=by
     have:=Heq.out
     rw [List.take_length,Hlen.out,List.take_length] at this
     exact this
    exact ⟨by rw [decide_eq_true he];rfl,HKr.out⟩
 ·have hne:((l.length:Int) != (m.length:Int))=true:=by rw [bne_iff_ne];omega
  have hno:l≠m:=fun e=>hlen (by rw [e])
  rw [decide_eq_false hno]
  clear hno hlen
  go_enter Tryz.func124,Tryz.ntmps124
  go_wp2_with fail
  go_ret
  exact ⟨rfl,Keep.refl _ _⟩
theorem pequal_c (l m:List (Iv K)) (w:World) (sv tv:Value) (hr:IvR w sv l) (hs:IvR w tv m) (h9:l.length≤1000000000) (h8:m.length≤1000000000) :
  Calls Tryz.prog 80 #[sv,tv] w fun e w'=>e = .returned (.bool (decide (l=m)))∧Keep [] w w':=by
 have H:=jX (sequal_c l m w sv tv hr hs h9 h8)
 obtain⟨ao,ac,rfl,_⟩:=hr.form
 obtain⟨bo,bc,rfl,_⟩:=hs.form
 clear hr hs
 generalize decide (l=m)=r at *
 go_enter Tryz.func80,Tryz.ntmps80
 go_wp2_with fail
 refine H.out.mono ?_
 rintro e w1 ⟨rfl,hk⟩
 dsimp only
 have HK:=jX hk
 clear hk H
 go_wp2_with fail
 go_ret
 exact ⟨rfl,HK.out⟩
section
variable {S:List K} {w0 w w' W:World} {L M:List (Value × List (Iv K))} {D T E U P:List (Iv K)} {da ta ea ua pa:Option Addr} {dc tc ec uc pc:Nat}
theorem MP.peq {v u:Value} {a b:List (Iv K)} (h:MP S w0 w L) (hv:(v,a)∈L) (hu:(u,b)∈L):Calls Tryz.prog 80 #[v,u] w (BoolPost S w0 L (decide (a=b))) :=
 boolPost_of h (pequal_c a b w v u (h.get hv) (h.get hu) (by have:=h.len hv;omega) (by have:=h.len hu;omega))
theorem MP.meq (h:MP S w0 w L) (hD:(.slice da D.length dc,D)∈L) (hT:(.slice ta T.length tc,T)∈L) (hE:(.slice ea E.length ec,E)∈L) (hU:(.slice ua U.length uc,U)∈L) :
  Calls Tryz.prog 37 #[.agg #[.slice da D.length dc,.slice ta T.length tc],.agg #[.slice ea E.length ec,.slice ua U.length uc]] w (BoolPost S w0 L (decide (D=E)&&decide (T=U))):=by
 have H0:=jX h
 have hD:=jX hD
 have hT:=jX hT
 have hE:=jX hE
 have hU:=jX hU
 clear h
 have K1:=jX (fun b u M (h:MP S b u M) (h1:(.slice da D.length dc,D)∈M) (h2:(.slice ea E.length ec,E)∈M)=>h.peq h1 h2)
 have K2:=jX (fun b u M (h:MP S b u M) (h1:(.slice ta T.length tc,T)∈M) (h2:(.slice ua U.length uc,U)∈M)=>h.peq h1 h2)
 cases hr:decide (D=E) with
 | false =>
  rw [hr] at K1
  clear K2
  generalize decide (T=U)=q
  go_enter Tryz.func37,Tryz.ntmps37
  go_upto_region 1 with (fail)
  obtain⟨W,ga,gb,hW,ega,egb,bga,bgb,hga,hgb,hgW,hkW⟩:=al2 w (.cells #[.slice da D.length dc,.slice ta T.length tc] 29) (.cells #[.slice ea E.length ec,.slice ua U.length uc] 29)
  rw [← hW]
  try rw [egb]
  try rw [ega]
  have Bga:=jX bga
  have Bgb:=jX bgb
  have HkW:=jX hkW
  clear hW hkW ega egb bga bgb
  have HM:=jX (H0.out.here.move HkW.out).here
  have pga:=cell_of (HM.out.keep.heap Bga.out (by simp))
  have pgb:=cell_of (HM.out.keep.heap Bgb.out (by simp))
  go_wp2_with fail
  refine (K1.out _ _ _ HM.out hD.out hE.out).mono ?_
  rintro e w1 ⟨rfl,hm_w1⟩
  dsimp only
  have HM:=jX hm_w1
  clear hm_w1
  clear pga pgb
  go_wp2_with fail
  go_ret
  exact ⟨rfl,H0.out.back HkW.out HM.out (fun p hp=>by simp [hp])⟩
 | true =>
  rw [hr] at K1
  rw [Bool.true_and]
  generalize decide (T=U)=q at *
  go_enter Tryz.func37,Tryz.ntmps37
  go_upto_region 1 with (fail)
  obtain⟨W,ga,gb,hW,ega,egb,bga,bgb,hga,hgb,hgW,hkW⟩:=al2 w (.cells #[.slice da D.length dc,.slice ta T.length tc] 29) (.cells #[.slice ea E.length ec,.slice ua U.length uc] 29)
  rw [← hW]
  try rw [egb]
  try rw [ega]
  have Bga:=jX bga
  have Bgb:=jX bgb
  have HkW:=jX hkW
  clear hW hkW ega egb bga bgb
  have HM:=jX (H0.out.here.move HkW.out).here
  have pga:=cell_of (HM.out.keep.heap Bga.out (by simp))
  have pgb:=cell_of (HM.out.keep.heap Bgb.out (by simp))
  go_wp2_with fail
  refine (K1.out _ _ _ HM.out hD.out hE.out).mono ?_
  rintro e w1 ⟨rfl,hm_w1⟩
  dsimp only
  have HM:=jX hm_w1
  clear hm_w1
  clear pga pgb
  have pga:=cell_of (HM.out.keep.heap Bga.out (by simp))
  have pgb:=cell_of (HM.out.keep.heap Bgb.out (by simp))
  go_wp2_with fail
  refine (K2.out _ _ _ HM.out hT.out hU.out).mono ?_
  rintro e w2 ⟨rfl,hm_w2⟩
  dsimp only
  have HM:=jX hm_w2
  clear hm_w2
  clear pga pgb
  go_wp2_with fail
  go_ret
  exact ⟨rfl,H0.out.back HkW.out HM.out (fun p hp=>by simp [hp])⟩
theorem MP.req (h:MP S w0 w L) (hD:(.slice da D.length dc,D)∈L) (hT:(.slice ta T.length tc,T)∈L) (hE:(.slice ea E.length ec,E)∈L) (hU:(.slice ua U.length uc,U)∈L) :
  Calls Tryz.prog 27 #[.agg #[.slice da D.length dc,.slice ta T.length tc],.agg #[.slice ea E.length ec,.slice ua U.length uc]] w (BoolPost S w0 L (decide (D=E)&&decide (T=U))):=by
 have H0:=jX h
 have hD:=jX hD
 have hT:=jX hT
 have hE:=jX hE
 have hU:=jX hU
 clear h
 have K1:=jX (fun b u M (h:MP S b u M) (h1:(.slice da D.length dc,D)∈M) (h2:(.slice ea E.length ec,E)∈M)=>h.eqd h1 h2)
 have K2:=jX (fun b u M (h:MP S b u M) (h1:(.slice ta T.length tc,T)∈M) (h2:(.slice ua U.length uc,U)∈M)=>h.eqd h1 h2)
 cases hr:decide (D=E) with
 | false =>
  rw [hr] at K1
  clear K2
  generalize decide (T=U)=q
  go_enter Tryz.func27,Tryz.ntmps27
  go_upto_region 1 with (fail)
  obtain⟨W,ga,gb,hW,ega,egb,bga,bgb,hga,hgb,hgW,hkW⟩:=al2 w (.cells #[.slice da D.length dc,.slice ta T.length tc] 29) (.cells #[.slice ea E.length ec,.slice ua U.length uc] 29)
  rw [← hW]
  try rw [egb]
  try rw [ega]
  have Bga:=jX bga
  have Bgb:=jX bgb
  have HkW:=jX hkW
  clear hW hkW ega egb bga bgb
  have HM:=jX (H0.out.here.move HkW.out).here
  have pga:=cell_of (HM.out.keep.heap Bga.out (by simp))
  have pgb:=cell_of (HM.out.keep.heap Bgb.out (by simp))
  go_wp2_with fail
  refine (K1.out _ _ _ HM.out hD.out hE.out).mono ?_
  rintro e w1 ⟨rfl,hm_w1⟩
  dsimp only
  have HM:=jX hm_w1
  clear hm_w1
  clear pga pgb
  go_wp2_with fail
  go_ret
  exact ⟨rfl,H0.out.back HkW.out HM.out (fun p hp=>by simp [hp])⟩
 | true =>
  rw [hr] at K1
  rw [Bool.true_and]
  generalize decide (T=U)=q at *
  go_enter Tryz.func27,Tryz.ntmps27
  go_upto_region 1 with (fail)
  obtain⟨W,ga,gb,hW,ega,egb,bga,bgb,hga,hgb,hgW,hkW⟩:=al2 w (.cells #[.slice da D.length dc,.slice ta T.length tc] 29) (.cells #[.slice ea E.length ec,.slice ua U.length uc] 29)
  rw [← hW]
  try rw [egb]
  try rw [ega]
  have Bga:=jX bga
  have Bgb:=jX bgb
  have HkW:=jX hkW
  clear hW hkW ega egb bga bgb
  have HM:=jX (H0.out.here.move HkW.out).here
  have pga:=cell_of (HM.out.keep.heap Bga.out (by simp))
  have pgb:=cell_of (HM.out.keep.heap Bgb.out (by simp))
  go_wp2_with fail
  refine (K1.out _ _ _ HM.out hD.out hE.out).mono ?_
  rintro e w1 ⟨rfl,hm_w1⟩
  dsimp only
  have HM:=jX hm_w1
  clear hm_w1
  clear pga pgb
  have pga:=cell_of (HM.out.keep.heap Bga.out (by simp))
  have pgb:=cell_of (HM.out.keep.heap Bgb.out (by simp))
  go_wp2_with fail
  refine (K2.out _ _ _ HM.out hT.out hU.out).mono ?_
  rintro e w2 ⟨rfl,hm_w2⟩
  dsimp only
  have HM:=jX hm_w2
  clear hm_w2
  clear pga pgb
  go_wp2_with fail
  go_ret
  exact ⟨rfl,H0.out.back HkW.out HM.out (fun p hp=>by simp [hp])⟩
end
section
variable {S:List K} {w0 w w' W V:World} {L M:List (Value × List (Iv K))}
end
theorem lreal_c (a:InsA) (w:World):Calls Tryz.prog 16 #[a.v] w fun e w'=>e = .returned (kv a.k)∧Keep [] w w':=by
 have HI:=jX (instant_c a)
 have hv:a.v = .agg #[.int .u8 a.P,.int .u8 a.D,.int .u8 a.R,.int .u8 a.E,.bool a.neg]:=rfl
 rw [hv] at HI ⊢
 generalize (a.P:Int)=P1 at *
 generalize (a.D:Int)=P2 at *
 generalize (a.R:Int)=P3 at *
 generalize (a.E:Int)=P4 at *
 generalize a.neg=P5 at *
 generalize a.k=t at *
 go_enter Tryz.func16,Tryz.ntmps16
 go_upto_region 1 with (fail)
 obtain⟨W,ga,gb,hW,ega,egb,bga,bgb,hga,hgb,hgW,hkW⟩:=al2 w (.cells #[.int .u8 P1,.int .u8 P2,.int .u8 P3,.int .u8 P4,.bool P5] 26) (.cells #[.bool false,.string ⟨#[]⟩,.bool false,.string ⟨#[]⟩,.bool false,.string ⟨#[]⟩,.bool false,.string ⟨#[]⟩,.bool false] 36)
 rw [← hW]
 try rw [egb]
 try rw [ega]
 have Bga:=jX bga
 have Bgb:=jX bgb
 have HkW:=jX hkW
 clear hW hkW ega egb bga bgb
 have pga:=cell_of Bga.out
 refine wp_region_lit ?_
 refine' wpList_R (v:=_) (by rfl) (?hruna) (fun K hK=>?hnexta)
 case hruna=>(go_simp;try rfl)
 go_simp
 refine hK _ _ ?_
 clear hK K
 refine wpList_plain (by rfl) (fun K hK=>?_)
 refine wp_enter 64 #[.agg #[.int .u8 P1,.int .u8 P2,.int .u8 P3,.int .u8 P4,.bool P5]] (by go_simp) ?_
 refine (HI.out _).mono ?_
 rintro e w2 ⟨rfl,hk2⟩
 refine ⟨_,rfl,?_⟩
 go_simp
 refine hK _ _ ?_
 clear hK K pga
 have Bz:=jX (hk2.heap Bgb.out (by simp))
 refine wpList_rowK (by rfl) _ _ _ rfl gb (kC t) rfl rfl _ _ Bz.out (by exact k_size) (by rfl) (all_oneCell_toArray (kcells_one t.1)) (fun K hK=>?_)
 obtain⟨w4,e4,b4,k4⟩:=setRow_at (cs:=kC t) Bz.out
 rw [e4]
 go_simp
 refine hK _ _ ?_
 clear hK K e4
 have HL:=jX (load_real w4 gb 0 t.1 (kAt_box b4))
 have HkZ:=jX ((HkW.out.trans0 hk2).trans k4 (by simp;omega))
 clear b4 k4
 go_wp2_with fail
 refine bodyPost_ret (v:=kv t) ?_ rfl ⟨rfl,HkZ.out⟩
 rw [results_cell1 rfl]
 change ((loadVar 36 ⟨gb,0,none⟩).run Tryz.prog w4)=_
 rw [HL.out]
 rfl
end Go.Proofs.YtejegogbhpmgfaaGreatDoor
namespace Go.Proofs.YtejegogbhpmgfaaGreatDoor
open Classical
section
variable {k0 k2 k3 k4 k10 k12:K}
end
theorem spans_at {l:List (Iv K)} {y z x:K} (hv:∀ i∈l,i.f<i.l) (h1:y<x) (h2:x<z) (hb:∀ p∈ptsL l,p≤y∨z≤p):spans l y z=holds l x:=by
 unfold spans holds
 refine Bool.eq_iff_iff.2 ?_
 rw [List.any_eq_true,List.any_eq_true]
 constructor
 ·rintro ⟨i,hi,h⟩
  rw [decide_eq_true_iff] at h
  refine ⟨i,hi,?_⟩
  rw [decide_eq_true_iff,Bd.le_def,Bd.le_def]
  dsimp only
  constructor
  ·left;grind
  ·left;grind
 ·rintro ⟨i,hi,h⟩
  rw [decide_eq_true_iff,Bd.le_def,Bd.le_def] at h
  dsimp only at h
  refine ⟨i,hi,?_⟩
  rw [decide_eq_true_iff]
  have p1:=hb i.f.pt (by unfold ptsL;exact List.mem_flatMap.2 ⟨i,hi,by simp⟩)
  have p2:=hb i.l.pt (by unfold ptsL;exact List.mem_flatMap.2 ⟨i,hi,by simp⟩)
  obtain⟨h3,h4⟩:=h
  constructor
  ·rcases p1 with p1|p1
   ·exact p1
   ·rcases h3 with h3|h3<;>grind
  ·rcases p2 with p2|p2
   ·rcases h4 with h4|h4<;>grind
   ·exact p2
theorem near_ends {l:List K} (h:l.Pairwise (· < ·)) {i:Nat} (hi:i+1<l.length):∀ p∈l,p≤l[i]∨l[i+1]≤p:=by
 intro p hp
 obtain⟨j,hj,rfl⟩:=List.getElem_of_mem hp
 rw [List.pairwise_iff_getElem] at h
 by_cases hij:j≤i
 ·left
  rcases Nat.lt_or_eq_of_le hij with h1|h1
  ·have:=h j i hj (by omega) h1
   grind
  ·subst h1;grind
 ·right
  rcases Nat.lt_or_eq_of_le (show i+1≤j by omega) with h1|h1
  ·have:=h (i+1) j hi hj h1
   grind
  ·subst h1;grind
end Go.Proofs.YtejegogbhpmgfaaGreatDoor
namespace Go.Proofs.YtejegogbhpmgfaaGreatDoor
open Go.RowKit
open Classical
section
variable {S:List K} {w0 w w' W:World} {L M:List (Value × List (Iv K))} {D T E U P:List (Iv K)} {da ta ea ua pa:Option Addr} {dc tc ec uc pc:Nat}
theorem MP.rchanges (h:MP S w0 w L) (hD:(.slice da D.length dc,D)∈L) (hT:(.slice ta T.length tc,T)∈L):Calls Tryz.prog 36 #[.agg #[.slice da D.length dc,.slice ta T.length tc]] w (ChPost S w0 L (sortS (ptsL (D++T)))):=by
 have H0:=jX h
 have hd:=h.len hD
 have ht:=h.len hT
 have HR:=jX (h.get hD)
 have HS:=jX (h.get hT)
 have HE:=jX (fun w v (h:IvR w v (D++T))=>ends_c (D++T) w v h (by simp;omega))
 generalize sortS (ptsL (D++T))=R at *
 clear h hD hT
 go_enter Tryz.func36,Tryz.ntmps36
 go_upto_region 1 with (fail)
 obtain⟨W,ga,hW,ega,bga,hga,hgW,hkW⟩:=al1 w (.cells #[.slice da D.length dc,.slice ta T.length tc] 29)
 rw [← hW]
 try rw [ega]
 have Bga:=jX bga
 have HkW:=jX hkW
 clear hW hkW ega bga
 refine wp_region_heldT (S:=fun u=>Keep [] W u) 8 (by kernel_rfl) (by kernel_rfl) (fun _ _ d _ _ h=>by cases d<;>exact h) ?_
 have hS0:=Keep.drew [] W
 generalize World.drew W=u at *
 refine' jV (v:=_) 1 hS0 (fun w hw=>?hrunf1) (fun K hK=>?hnextf1)
 case hrunf1=>(have pga:=cell_of (hw.heap Bga.out (by simp));go_simp;try rfl)
 go_simp
 refine hK _ ?_
 clear hK K
 refine' jV (v:=_) 2 hS0 (fun w hw=>?hrunf2) (fun K hK=>?hnextf2)
 case hrunf2=>(have pga:=cell_of (hw.heap Bga.out (by simp));go_simp;try rfl)
 go_simp
 refine hK _ ?_
 clear hK K
 refine' jV (v:=_) 4 hS0 (fun w hw=>?hrunf4) (fun K hK=>?hnextf4)
 case hrunf4=>(have pga:=cell_of (hw.heap Bga.out (by simp));go_simp;try rfl)
 go_simp
 refine hK _ ?_
 clear hK K
 refine' jV (v:=_) 5 hS0 (fun w hw=>?hrunf5) (fun K hK=>?hnextf5)
 case hrunf5=>(have pga:=cell_of (hw.heap Bga.out (by simp));go_simp;try rfl)
 go_simp
 refine hK _ ?_
 clear hK K
 refine jO 0 (fun K hK=>?_)
 have HWu:=jX (HkW.out.trans0 hS0)
 obtain⟨ua,g0,e1,e2,hz0,ho⟩:=OI_.start u
 refine wp_op _ _ (exec_bs 27 0 #[] #[] _ rfl (by simp) (build0_i _)) ?_
 rw [e1,e2]
 clear e1
 have HSu:=hS0
 go_simp
 refine hK _ _ (HSu.trans0 ho.keep) ?_
 clear hK K
 obtain⟨v4,u4,hr4,ho4,hn4,_⟩:=IvR.app (ty:=27) ho (.inl (by simp [Value.ownBlock])) ((HR.out.later HWu.out).later ho.keep) (by simp;omega)
 refine jO 3 (fun K hK=>?_)
 refine wp_op _ _ (exec_app (.tmp 3) (.tmp 5) 27 _ _ _ rfl rfl rfl hr4) ?_
 go_simp
 refine hK _ _ (HSu.trans0 ho4.keep) ?_
 clear hK K hr4
 obtain⟨v5,u5,hr5,ho5,hn5,_⟩:=IvR.app (ty:=27) ho4 (.inl hn4) ((HS.out.later HWu.out).later ho4.keep) (by simp;omega)
 refine jO 6 (fun K hK=>?_)
 refine wp_op _ _ (exec_app (.tmp 6) (.tmp 8) 27 _ _ _ rfl rfl rfl hr5) ?_
 go_simp
 refine hK _ _ (HSu.trans0 ho5.keep) ?_
 clear hK K hr5
 refine jO 7 (fun K hK=>?_)
 refine wp_enter 79 #[v5] (by go_simp) ?_
 refine (HE.out _ _ (by simpa using ho5.read)).mono ?_
 rintro e u6 ⟨v6,rfl,hv6,hk6⟩
 refine ⟨_,rfl,?_⟩
 go_simp
 refine hK _ _ ((HSu.trans0 ho5.keep).trans0 hk6) ?_
 clear hK K
 have HR6:=jX hv6
 have HKz:=jX (HWu.out.trans0 (ho5.keep.trans0 hk6))
 clear hv6 hk6 ho ho4 ho5 hn4 hn5 HSu hS0
 refine ⟨by kernel_rfl,?_⟩
 simp only [List.drop_succ_cons,List.drop_zero]
 go_wp2_with fail
 go_ret
 exact ⟨_,rfl,HR6.out,H0.out.move HKz.out⟩
end
structure InsC (v:Value) (k:K):Prop where
 form:∃ p1 p2 p3 p4 b,v = .agg #[.int .u8 p1,.int .u8 p2,.int .u8 p3,.int .u8 p4,.bool b]
 call:∀ u,Calls Tryz.prog 16 #[v] u fun e w'=>e = .returned (.agg (kC k))∧Keep [] u w'
theorem insC_of {w:World} {v:Value} (h:InsArg w v):∃ k,InsC v k:=by
 obtain⟨a,rfl⟩:=h
 exact ⟨a.k,⟨_,_,_,_,_,rfl⟩,fun u=>lreal_c a u⟩
section
variable {P:Program} {ops:Array Oper} {md:Region.Mode} {S:World→Prop} {Q:Exit→Act→World→Prop}
end
section
variable {S:List K} {w0 w w' W:World} {L M:List (Value × List (Iv K))} {D T E U P:List (Iv K)} {da ta ea ua pa:Option Addr} {dc tc ec uc pc:Nat}
theorem MP.meqT (h:MP S w0 w L) (hD:(.slice da D.length dc,D)∈L) (hT:(.slice ta T.length tc,T)∈L) (hE:(.slice ea E.length ec,E)∈L) (hU:(.slice ua U.length uc,U)∈L) (h1:D=E) (h2:T=U) :
  Calls Tryz.prog 37 #[.agg #[.slice da D.length dc,.slice ta T.length tc],.agg #[.slice ea E.length ec,.slice ua U.length uc]] w (BoolPost S w0 L true):=by
 have:=h.meq hD hT hE hU
 rw [decide_eq_true h1,decide_eq_true h2] at this
 exact this
theorem MP.matT (h:MP S w0 w L) (hD:(.slice da D.length dc,D)∈L) (hT:(.slice ta T.length tc,T)∈L) {t:K} {q r:Bool} (hq:holds T t=q) (hr:holds D t=r) :
  Calls Tryz.prog 17 #[.agg #[.slice da D.length dc,.slice ta T.length tc],.agg (kC t)] w (BB2Post S w0 L q r):=by
 subst hq hr
 exact h.mat hD hT t
end
section
variable {S:List K} {w0 w w' W:World} {L M:List (Value × List (Iv K))} {D T:List (Iv K)} {v:Value} {l:List (Iv K)} {da ta:Option Addr} {dc tc:Nat}
theorem MP.spanT (h:MP S w0 w L) (hv:(v,l)∈L) {y z:K} {q:Bool} (hq:spans l y z=q):Calls Tryz.prog 39 #[v,.agg (kC y),.agg (kC z)] w (BoolPost S w0 L q):=by
 have:=boolPost_of h (spans_c l y z w v (h.get hv) (by have:=h.len hv;omega))
 rw [hq] at this
 exact this
variable {E U:List (Iv K)} {ea ua:Option Addr} {ec uc:Nat}
theorem MP.meqQ (h:MP S w0 w L) (hD:(.slice da D.length dc,D)∈L) (hT:(.slice ta T.length tc,T)∈L) (hE:(.slice ea E.length ec,E)∈L) (hU:(.slice ua U.length uc,U)∈L) {q:Bool} (hq:(decide (D=E)&&decide (T=U))=q) :
  Calls Tryz.prog 37 #[.agg #[.slice da D.length dc,.slice ta T.length tc],.agg #[.slice ea E.length ec,.slice ua U.length uc]] w (BoolPost S w0 L q):=by
 have:=h.meq hD hT hE hU
 rw [hq] at this
 exact this
theorem MP.reqQ (h:MP S w0 w L) (hD:(.slice da D.length dc,D)∈L) (hT:(.slice ta T.length tc,T)∈L) (hE:(.slice ea E.length ec,E)∈L) (hU:(.slice ua U.length uc,U)∈L) {q:Bool} (hq:(decide (D=E)&&decide (T=U))=q) :
  Calls Tryz.prog 27 #[.agg #[.slice da D.length dc,.slice ta T.length tc],.agg #[.slice ea E.length ec,.slice ua U.length uc]] w (BoolPost S w0 L q):=by
 have:=h.req hD hT hE hU
 rw [hq] at this
 exact this
variable (h:MP S w0 w L) (hD:(.slice da D.length dc,D)∈L) (hT:(.slice ta T.length tc,T)∈L)
include h hD hT
end
section
variable {S:List K} {w0 w:World} {L:List (Value × List (Iv K))} {D T:List (Iv K)} {da ta:Option Addr} {dc tc:Nat}
end
theorem ends_near {D T:List (Iv K)} (hD:∀ i∈D,i.f<i.l) (hT:∀ i∈T,i.f<i.l) {E:List K} (hE:sortS (ptsL (D++T))=E) {j:Nat} {y z x:K} (hy:E[j]? = some y) (hz:E[j+1]? = some z)
  (h1:cmpQ y.1 x.1<0) (h2:cmpQ x.1 z.1<0):spans D y z=holds D x∧spans T y z=holds T x:=by
 subst hE
 obtain⟨hl,e1⟩:=List.getElem?_eq_some_iff.1 hz
 obtain⟨hl',e2⟩:=List.getElem?_eq_some_iff.1 hy
 have hn:=near_ends (sortS_ord (ptsL (D++T))) hl
 rw [e1,e2] at hn
 have hp:∀ p,p∈ptsL D∨p∈ptsL T→p≤y∨z≤p:=fun p h=>hn p (sortS_mem.2 (by
  unfold ptsL at *
  rw [List.flatMap_append,List.mem_append]
  exact h))
 exact ⟨spans_at hD ((cmpK_lt _ _).1 h1) ((cmpK_lt _ _).1 h2) (fun p h=>hp p (.inl h)),spans_at hT ((cmpK_lt _ _).1 h1) ((cmpK_lt _ _).1 h2) (fun p h=>hp p (.inr h))⟩
theorem movingboolChanges_c (w:World) (v0 v1 v2:Value) (m0:MovArg w v0) (m1:MovArg w v1) (m2:InsArg w v2):Calls Tryz.prog 7 #[v0,v1,v2] w fun e w'=>e = .returned (.bool true)∧Keep [] w w':=by
 obtain⟨l0,q0,D0,T0,c0⟩:=movC_of m0
 obtain⟨l1,q1,D1,T1,c1⟩:=movC_of m1
 obtain⟨k2,C2⟩:=insC_of m2
 have hS:(l0++l1).length≤1000:=by simp only [List.length_append];omega
 have C0:=c0 (l0++l1) (by simp +contextual)
 have C1:=c1 (l0++l1) (by simp +contextual)
 generalize l0++l1=S at *
 obtain⟨ao0,an0,ac0,bo0,bn0,bc0,rfl⟩:=C0.form
 have nD0:=C0.nD
 have nT0:=C0.nT
 have sT0:=C0.sub
 obtain⟨ao1,an1,ac1,bo1,bn1,bc1,rfl⟩:=C1.form
 have nD1:=C1.nD
 have nT1:=C1.nT
 have sT1:=C1.sub
 obtain⟨x1,x2,x3,x4,x5,rfl⟩:=C2.form
 have HC0:=jX C0
 have HC1:=jX C1
 have HC2:=jX C2
 clear m2 C2
 clear m0 q0 c0 C0 m1 q1 c1 C1 l0 l1
 have HV0:=jX nD0.val
 have HV1:=jX nT0.val
 obtain⟨qe,e5⟩:∃ q,(decide (D0=D1)&&decide (T0=T1))=q:=⟨_,rfl⟩
 obtain⟨q0,e0⟩:∃ q,holds T0 k2=q:=⟨_,rfl⟩
 obtain⟨r0,e1⟩:∃ q,holds D0 k2=q:=⟨_,rfl⟩
 have Xe5:=jX e5
 have Xe0:=jX e0
 have Xe1:=jX e1
 clear e0 e1 e5
 go_enter Tryz.func7,Tryz.ntmps7
 go_upto_region 1 with (fail)
 obtain⟨W,ga,gb,gc,hW,ega,egb,egc,bga,bgb,bgc,hga,hgb,hgc,hgW,hkW⟩:=al3 w (.cells #[.slice ao0 an0 ac0,.slice bo0 bn0 bc0] 24) (.cells #[.slice ao1 an1 ac1,.slice bo1 bn1 bc1] 24) (.cells #[.int .u8 x1,.int .u8 x2,.int .u8 x3,.int .u8 x4,.bool x5] 26)
 rw [← hW]
 try rw [egc]
 try rw [egb]
 try rw [ega]
 have Bga:=jX bga
 have Bgb:=jX bgb
 have Bgc:=jX bgc
 have HkW:=jX hkW
 clear hW hkW ega egb egc bga bgb bgc
 have HM:=jX (MP.start hS W)
 have HK:=jX HkW.out
 clear hS HkW
 refine wp_region_heldN (S:=fun u=>Keep [] W u) 9 [(7,29),(8,29),(9,36)] (fun t=>if t=29 then .cells #[.slice none 0 0,.slice none 0 0] 29 else .cells #[.bool false,.string ⟨#[]⟩,.bool false,.string ⟨#[]⟩,.bool false,.string ⟨#[]⟩,.bool false,.string ⟨#[]⟩,.bool false] 36) (by kernel_rfl) (by kernel_rfl) (by kernel_rfl) (fun t ht ev w o ho=>(by simp at ht;rcases ht with rfl|rfl<;>first|(rw [if_pos rfl];exact al_bool ev w o ho)|(rw [if_neg (by decide)];exact al_real ev w o ho))) (fun _ _ d _ _ h=>by cases d<;>exact h) (fun _ _ d _ _ h=>by cases d<;>exact h) (fun _ _ h k=>h.trans0 k) ?_
 simp only [List.map_cons,List.map_nil,unal,isAl,if_true,if_false,Bool.false_eq_true]
 have hS0:=Keep.drew [] W
 have HM:=jX (HM.out.move hS0).here
 generalize World.drew W=u at *
 refine' jN (v:=_) 0 hS0 (fun _ _ h k=>h.trans0 k) (fun w hw=>?hrunr10) (fun K hK=>?hnextr10)
 case hrunr10=>(have pga:=cell_of (hw.heap Bga.out (by simp));go_simp;try rfl)
 go_simp
 refine hK _ ?_
 clear hK K
 refine' jN (v:=_) 2 hS0 (fun _ _ h k=>h.trans0 k) (fun w hw=>?hrunr12) (fun K hK=>?hnextr12)
 case hrunr12=>(have pgb:=cell_of (hw.heap Bgb.out (by simp));go_simp;try rfl)
 go_simp
 refine hK _ ?_
 clear hK K
 refine' jN (v:=_) 4 hS0 (fun _ _ h k=>h.trans0 k) (fun w hw=>?hrunr14) (fun K hK=>?hnextr14)
 case hrunr14=>(have pgc:=cell_of (hw.heap Bgc.out (by simp));go_simp;try rfl)
 go_simp
 refine hK _ ?_
 clear hK K
 refine' jN (v:=_) 6 hS0 (fun _ _ h k=>h.trans0 k) (fun w hw=>?hrunr16) (fun K hK=>?hnextr16)
 case hrunr16=>(skip;go_simp;try rfl)
 go_simp
 refine hK _ ?_
 clear hK K
 refine' jN (v:=_) 7 hS0 (fun _ _ h k=>h.trans0 k) (fun w hw=>?hrunr17) (fun K hK=>?hnextr17)
 case hrunr17=>(skip;go_simp;try rfl)
 go_simp
 refine hK _ ?_
 clear hK K
 refine' jN (v:=_) 8 hS0 (fun _ _ h k=>h.trans0 k) (fun w hw=>?hrunr18) (fun K hK=>?hnextr18)
 case hrunr18=>(skip;go_simp;try rfl)
 go_simp
 refine hK _ ?_
 clear hK K
 refine jM 1 (fun u hu K hK=>?_)
 have HM:=jX (HM.out.move hu).here
 have hS0:=hS0.trans0 hu
 clear hu
 refine wp_enter 15 #[.agg #[.slice ao0 an0 ac0,.slice bo0 bn0 bc0]] (by go_simp) ?_
 refine (HC0.out.call _ _ _ (HK.out.trans0 hS0) HM.out).mono ?_
 rintro e w1 ⟨da_w1,dc_w1,ta_w1,tc_w1,rfl,hm_w1⟩
 have hk:=hm_w1.keep
 have HM:=jX hm_w1.here
 clear hm_w1
 have hS0:=hS0.trans0 hk
 refine ⟨_,rfl,?_⟩
 go_simp
 refine hK _ _ hS0 hk ?_
 clear hK K hk
 refine jM 3 (fun u hu K hK=>?_)
 have HM:=jX (HM.out.move hu).here
 have hS0:=hS0.trans0 hu
 clear hu
 refine wp_enter 15 #[.agg #[.slice ao1 an1 ac1,.slice bo1 bn1 bc1]] (by go_simp) ?_
 refine (HC1.out.call _ _ _ (HK.out.trans0 hS0) HM.out).mono ?_
 rintro e w2 ⟨da_w2,dc_w2,ta_w2,tc_w2,rfl,hm_w2⟩
 have hk:=hm_w2.keep
 have HM:=jX hm_w2.here
 clear hm_w2
 have hS0:=hS0.trans0 hk
 refine ⟨_,rfl,?_⟩
 go_simp
 refine hK _ _ hS0 hk ?_
 clear hK K hk
 refine jM 5 (fun u hu K hK=>?_)
 have HM:=jX (HM.out.move hu).here
 have hS0:=hS0.trans0 hu
 clear hu
 refine wp_enter 16 #[.agg #[.int .u8 x1,.int .u8 x2,.int .u8 x3,.int .u8 x4,.bool x5]] (by go_simp) ?_
 refine (HC2.out.call _).mono ?_
 rintro e w3 ⟨rfl,hk⟩
 have HM:=jX (HM.out.move hk).here
 have hS0:=hS0.trans0 hk
 refine ⟨_,rfl,?_⟩
 go_simp
 refine hK _ _ hS0 hk ?_
 clear hK K hk
 intro w4 hu
 have HM:=jX (HM.out.move hu).here
 have hS0:=hS0.trans0 hu
 clear hu
 refine ⟨by kernel_rfl,fun p hp1 hp2 _ hz=>?_⟩
 simp only [List.map_cons,List.map_nil,pl,List.drop_succ_cons,List.drop_zero]
 have b7:=hz (7,29) (by simp)
 have h7:=hp1 7 (by simp)
 have b8:=hz (8,29) (by simp)
 have h8:=hp1 8 (by simp)
 have b9:=hz (9,36) (by simp)
 have h9:=hp1 9 (by simp)
 have n7_8:p 7≠p 8:=fun h=>absurd (hp2 7 (by simp) 8 (by simp) h) (by decide)
 have n7_9:p 7≠p 9:=fun h=>absurd (hp2 7 (by simp) 9 (by simp) h) (by decide)
 have n8_9:p 8≠p 9:=fun h=>absurd (hp2 8 (by simp) 9 (by simp) h) (by decide)
 dsimp only at b7 b8 b9
 rw [if_pos rfl] at b7
 rw [if_pos rfl] at b8
 rw [if_neg (by decide)] at b9
 generalize p 7=g7 at *
 generalize p 8=g8 at *
 generalize p 9=g9 at *
 clear hz hp1 hp2 p
 have HM:=jX (HM.out.re hS0)
 clear hS0
 go_simp
 refine wpList_rowK (by rfl) _ _ _ rfl g7 (#[.slice da_w1 D0.length dc_w1,.slice ta_w1 T0.length tc_w1]) rfl rfl _ _ b7 (by exact b_size) (by rfl) (b_one _ _ _ _ _ _) (fun K hK=>?_)
 have o7:=b7
 clear b7
 obtain⟨w5,e7,b7,k7⟩:=setRow_at (cs:=#[.slice da_w1 D0.length dc_w1,.slice ta_w1 T0.length tc_w1]) o7
 rw [e7]
 go_simp
 refine hK _ _ ?_
 clear hK K e7
 have b8:=k7.heap b8 (by simp [n7_8,n7_8.symm])
 have b9:=k7.heap b9 (by simp [n7_9,n7_9.symm])
 have HM:=jX (HM.out.put o7 (by simp) k7 h7)
 clear k7 o7
 refine wpList_rowK (by rfl) _ _ _ rfl g8 (#[.slice da_w2 D1.length dc_w2,.slice ta_w2 T1.length tc_w2]) rfl rfl _ _ b8 (by exact b_size) (by rfl) (b_one _ _ _ _ _ _) (fun K hK=>?_)
 have o8:=b8
 clear b8
 obtain⟨w6,e8,b8,k8⟩:=setRow_at (cs:=#[.slice da_w2 D1.length dc_w2,.slice ta_w2 T1.length tc_w2]) o8
 rw [e8]
 go_simp
 refine hK _ _ ?_
 clear hK K e8
 have b7:=k8.heap b7 (by simp [n7_8,n7_8.symm])
 have b9:=k8.heap b9 (by simp [n8_9,n8_9.symm])
 have HM:=jX (HM.out.put o8 (by simp) k8 h8)
 clear k8 o8
 refine wpList_rowK (by rfl) _ _ _ rfl g9 ((kC k2)) rfl rfl _ _ b9 (by exact k_size) (by rfl) (all_oneCell_toArray (kcells_one k2.1)) (fun K hK=>?_)
 have o9:=b9
 clear b9
 obtain⟨w7,e9,b9,k9⟩:=setRow_at (cs:=(kC k2)) o9
 rw [e9]
 go_simp
 refine hK _ _ ?_
 clear hK K e9
 have b7:=k9.heap b7 (by simp [n7_9,n7_9.symm])
 have b8:=k9.heap b8 (by simp [n8_9,n8_9.symm])
 have HM:=jX (HM.out.put o9 (by simp) k9 h9)
 clear k9 o9
 have hk:=HM.out.keep
 have HM:=jX HM.out.here
 have HK:=jX (HK.out.trans0 hk)
 have Bg7:=jX b7
 have Bg8:=jX b8
 have Bg9:=jX b9
 clear hk b7 h7 b8 h8 b9 h9 n7_8 n7_9 n8_9
 clear Bga Bgb Bgc HC0 HC1 HC2
 obtain⟨E,hE⟩:∃ E,sortS (ptsL (D0++T0))=E:=⟨_,rfl⟩
 have HE:=jX hE
 clear hE
 go_upto_region 2 with (fail)
 refine wp_region_heldT (S:=fun u=>Keep [] w7 u) 4 (by kernel_rfl) (by kernel_rfl) (fun _ _ d _ _ h=>by cases d<;>exact h) ?_
 have hS0:=Keep.drew [] w7
 have HM:=jX (HM.out.move hS0).here
 generalize World.drew w7=u at *
 refine' jG (v:=_) 0 hS0 (fun w hw=>?hrunr20) (fun K hK=>?hnextr20)
 case hrunr20=>(have pg7:=cell_of (hw.heap Bg7.out (by simp));go_simp;try rfl)
 go_simp
 refine hK _ ?_
 clear hK K
 refine' jG (v:=_) 2 hS0 (fun w hw=>?hrunr22) (fun K hK=>?hnextr22)
 case hrunr22=>(have pg7:=cell_of (hw.heap Bg7.out (by simp));go_simp;try rfl)
 go_simp
 refine hK _ ?_
 clear hK K
 refine jP 1 (fun K hK=>?_)
 refine wp_enter 35 #[.agg #[.slice da_w1 D0.length dc_w1,.slice ta_w1 T0.length tc_w1]] (by go_simp) ?_
 refine (HM.out.mchanges (ma 2 rfl) (ma 3 rfl)).mono ?_
 rintro e x1 ⟨v_x1,rfl,hv,hm_x1⟩
 rw [HE.out] at hv
 obtain⟨a_x1,c_x1,rfl,_⟩:=hv.form
 have Vx1:=jX hv
 clear hv
 have hk:=hm_x1.keep
 have HM:=jX hm_x1.here
 clear hm_x1
 have hS0:=hS0.trans0 hk
 refine ⟨_,rfl,?_⟩
 go_simp
 refine hK _ _ hS0 ?_
 clear hK K hk
 refine jP 3 (fun K hK=>?_)
 refine wp_enter 36 #[.agg #[.slice da_w1 D0.length dc_w1,.slice ta_w1 T0.length tc_w1]] (by go_simp) ?_
 refine (HM.out.rchanges (ma 2 rfl) (ma 3 rfl)).mono ?_
 rintro e x2 ⟨v_x2,rfl,hv,hm_x2⟩
 rw [HE.out] at hv
 obtain⟨a_x2,c_x2,rfl,_⟩:=hv.form
 have Vx2:=jX hv
 have Vx1:=jX (Vx1.out.later hm_x2.keep)
 clear hv
 have hk:=hm_x2.keep
 have HM:=jX hm_x2.here
 clear hm_x2
 have hS0:=hS0.trans0 hk
 refine ⟨_,rfl,?_⟩
 go_simp
 refine hK _ _ hS0 ?_
 clear hK K hk
 refine ⟨by kernel_rfl,?_⟩
 simp only [List.drop_succ_cons,List.drop_zero]
 have HK:=jX (HK.out.trans0 hS0)
 have Bg7:=jX (hS0.heap Bg7.out (by simp))
 have Bg8:=jX (hS0.heap Bg8.out (by simp))
 have Bg9:=jX (hS0.heap Bg9.out (by simp))
 clear hS0
 go_upto_region 3 with (fail)
 refine wp_region_heldT (S:=fun u=>Keep [] x2 u) 23 (by kernel_rfl) (by kernel_rfl) (fun _ _ d _ _ h=>by cases d<;>exact h) ?_
 have hS0:=Keep.drew [] x2
 have HM:=jX (HM.out.move hS0).here
 generalize World.drew x2=u at *
 refine jP 0 (fun K hK=>?_)
 refine wp_enter 20 #[] (by go_simp) ?_
 refine (known12_c _).mono ?_
 rintro e w8 ⟨rfl,hk⟩
 have HM:=jX (HM.out.move hk).here
 have hS0:=hS0.trans0 hk
 refine ⟨_,rfl,?_⟩
 go_simp
 refine hK _ _ hS0 ?_
 clear hK K hk
 refine' jG (v:=_) 1 hS0 (fun w hw=>?hrunr31) (fun K hK=>?hnextr31)
 case hrunr31=>(skip;go_simp;try rfl)
 go_simp
 refine hK _ ?_
 clear hK K
 refine' jG (v:=_) 2 hS0 (fun w hw=>?hrunr32) (fun K hK=>?hnextr32)
 case hrunr32=>(skip;go_simp;try rfl)
 go_simp
 refine hK _ ?_
 clear hK K
 refine' jG (v:=_) 3 hS0 (fun w hw=>?hrunr33) (fun K hK=>?hnextr33)
 case hrunr33=>(skip;go_simp;try rfl)
 go_simp
 refine hK _ ?_
 clear hK K
 refine' jG (v:=_) 4 hS0 (fun w hw=>?hrunr34) (fun K hK=>?hnextr34)
 case hrunr34=>(skip;go_simp;try rfl)
 go_simp
 refine hK _ ?_
 clear hK K
 refine' jG (v:=_) 5 hS0 (fun w hw=>?hrunr35) (fun K hK=>?hnextr35)
 case hrunr35=>(skip;go_simp;try rfl)
 go_simp
 refine hK _ ?_
 clear hK K
 refine' jG (v:=_) 6 hS0 (fun w hw=>?hrunr36) (fun K hK=>?hnextr36)
 case hrunr36=>(skip;go_simp;try rfl)
 go_simp
 refine hK _ ?_
 clear hK K
 refine' jG (v:=_) 7 hS0 (fun w hw=>?hrunr37) (fun K hK=>?hnextr37)
 case hrunr37=>(skip;go_simp;try rfl)
 go_simp
 refine hK _ ?_
 clear hK K
 refine' jG (v:=_) 8 hS0 (fun w hw=>?hrunr38) (fun K hK=>?hnextr38)
 case hrunr38=>(skip;go_simp;try rfl)
 go_simp
 refine hK _ ?_
 clear hK K
 refine' jG (v:=_) 9 hS0 (fun w hw=>?hrunr39) (fun K hK=>?hnextr39)
 case hrunr39=>(skip;go_simp;try rfl)
 go_simp
 refine hK _ ?_
 clear hK K
 refine' jG (v:=_) 10 hS0 (fun w hw=>?hrunr310) (fun K hK=>?hnextr310)
 case hrunr310=>(have pg7:=cell_of (hw.heap Bg7.out (by simp));go_simp;try rfl)
 go_simp
 refine hK _ ?_
 clear hK K
 refine' jG (v:=_) 11 hS0 (fun w hw=>?hrunr311) (fun K hK=>?hnextr311)
 case hrunr311=>(have pg8:=cell_of (hw.heap Bg8.out (by simp));go_simp;try rfl)
 go_simp
 refine hK _ ?_
 clear hK K
 refine' jG (v:=_) 13 hS0 (fun w hw=>?hrunr313) (fun K hK=>?hnextr313)
 case hrunr313=>(have pg7:=cell_of (hw.heap Bg7.out (by simp));go_simp;try rfl)
 go_simp
 refine hK _ ?_
 clear hK K
 refine' jG (v:=_) 14 hS0 (fun w hw=>?hrunr314) (fun K hK=>?hnextr314)
 case hrunr314=>(have pg8:=cell_of (hw.heap Bg8.out (by simp));go_simp;try rfl)
 go_simp
 refine hK _ ?_
 clear hK K
 refine jP 12 (fun K hK=>?_)
 refine wp_enter 37 #[.agg #[.slice da_w1 D0.length dc_w1,.slice ta_w1 T0.length tc_w1],.agg #[.slice da_w2 D1.length dc_w2,.slice ta_w2 T1.length tc_w2]] (by go_simp) ?_
 refine (HM.out.meqQ (ma 2 rfl) (ma 3 rfl) (ma 0 rfl) (ma 1 rfl) Xe5.out).mono ?_
 rintro e w9 ⟨rfl,hm_w9⟩
 have hk:=hm_w9.keep
 have HM:=jX hm_w9.here
 clear hm_w9
 have hS0:=hS0.trans0 hk
 refine ⟨_,rfl,?_⟩
 go_simp
 refine hK _ _ hS0 ?_
 clear hK K hk
 refine jP 15 (fun K hK=>?_)
 refine wp_enter 27 #[.agg #[.slice da_w1 D0.length dc_w1,.slice ta_w1 T0.length tc_w1],.agg #[.slice da_w2 D1.length dc_w2,.slice ta_w2 T1.length tc_w2]] (by go_simp) ?_
 refine (HM.out.reqQ (ma 2 rfl) (ma 3 rfl) (ma 0 rfl) (ma 1 rfl) Xe5.out).mono ?_
 rintro e w10 ⟨rfl,hm_w10⟩
 have hk:=hm_w10.keep
 have HM:=jX hm_w10.here
 clear hm_w10
 have hS0:=hS0.trans0 hk
 refine ⟨_,rfl,?_⟩
 go_simp
 refine hK _ _ hS0 ?_
 clear hK K hk
 refine' jG (v:=_) 16 hS0 (fun w hw=>?hrunr316) (fun K hK=>?hnextr316)
 case hrunr316=>(skip;go_simp;try rfl)
 go_simp
 refine hK _ ?_
 clear hK K
 refine' jG (v:=_) 17 hS0 (fun w hw=>?hrunr317) (fun K hK=>?hnextr317)
 case hrunr317=>(skip;go_simp;try rfl)
 go_simp
 refine hK _ ?_
 clear hK K
 refine' jG (v:=_) 18 hS0 (fun w hw=>?hrunr318) (fun K hK=>?hnextr318)
 case hrunr318=>(skip;go_simp;try rfl)
 go_simp
 refine hK _ ?_
 clear hK K
 refine' jG (v:=_) 19 hS0 (fun w hw=>?hrunr319) (fun K hK=>?hnextr319)
 case hrunr319=>(have pg7:=cell_of (hw.heap Bg7.out (by simp));go_simp;try rfl)
 go_simp
 refine hK _ ?_
 clear hK K
 refine' jG (v:=_) 20 hS0 (fun w hw=>?hrunr320) (fun K hK=>?hnextr320)
 case hrunr320=>(have pg7:=cell_of (hw.heap Bg7.out (by simp));go_simp;try rfl)
 go_simp
 refine hK _ ?_
 clear hK K
 refine jP 21 (fun K hK=>?_)
 refine wp_enter 37 #[.agg #[.slice da_w1 D0.length dc_w1,.slice ta_w1 T0.length tc_w1],.agg #[.slice da_w1 D0.length dc_w1,.slice ta_w1 T0.length tc_w1]] (by go_simp) ?_
 refine (HM.out.meqT (ma 2 rfl) (ma 3 rfl) (ma 2 rfl) (ma 3 rfl) rfl rfl).mono ?_
 rintro e w11 ⟨rfl,hm_w11⟩
 have hk:=hm_w11.keep
 have HM:=jX hm_w11.here
 clear hm_w11
 have hS0:=hS0.trans0 hk
 refine ⟨_,rfl,?_⟩
 go_simp
 refine hK _ _ hS0 ?_
 clear hK K hk
 refine' jG (v:=_) 22 hS0 (fun w hw=>?hrunr322) (fun K hK=>?hnextr322)
 case hrunr322=>(skip;go_simp;try rfl)
 go_simp
 refine hK _ ?_
 clear hK K
 refine ⟨by kernel_rfl,?_⟩
 simp only [List.drop_succ_cons,List.drop_zero]
 have HK:=jX (HK.out.trans0 hS0)
 have Bg7:=jX (hS0.heap Bg7.out (by simp))
 have Bg8:=jX (hS0.heap Bg8.out (by simp))
 have Bg9:=jX (hS0.heap Bg9.out (by simp))
 have Vx2:=jX (Vx2.out.later hS0)
 have Vx1:=jX (Vx1.out.later hS0)
 clear hS0
 have hEl:E.length≤10000:=by have e:=sortS_len (ptsL (D0++T0));rw [HE.out,ptsL_len,List.length_append] at e;have:=HM.out.len (ma 2 rfl);have:=HM.out.len (ma 3 rfl);omega
 go_wp2_with fail
 go_loopw [12] (fun c wr=>∃ k:Nat,k≤E.length∧c = .int .i64 (k:Int)∧Keep [] w11 wr) (fun c _=>E.length-(intOf c).toNat)
 case atStart=>exact ⟨0,Nat.zero_le _,rfl,Keep.refl _ _⟩
 case round =>
  obtain⟨k,hk,rfl,hkp⟩:=hrel
  have HKr:=jX hkp
  have HKw:=jX hkp
  have HM:=jX (HM.out.move hkp).here
  have HK:=jX (HK.out.trans0 hkp)
  have Bg7:=jX (hkp.heap Bg7.out (by simp))
  have Bg9:=jX (hkp.heap Bg9.out (by simp))
  clear hkp Bg8
  by_cases hlt:k<E.length
  ·obtain⟨g1,o1,h1,hg1,hat1⟩:=KR.elem (Vx1.out.later HKr.out) k hlt
   obtain⟨g2,o2,rfl,hg2,hat2⟩:=KR.elem (Vx2.out.later HKr.out) k hlt
   subst h1
   obtain⟨z,hz⟩:∃ z,E[k]=z:=⟨_,rfl⟩
   rw [hz] at hat1 hat2
   have HZ:Hid (E[k]? = some z):=jX (by rw [List.getElem?_eq_getElem hlt,hz])
   clear hz
   obtain⟨p,hp⟩:∃ p,o1+k*9=p:=⟨_,rfl⟩
   obtain⟨r,hr⟩:∃ r,o2+k*9=r:=⟨_,rfl⟩
   rw [hp] at hat1
   rw [hr] at hat2
   have HLa:=jX (KAt.ld hat1 hg1)
   have HLb:=jX (KAt.ld hat2 hg2)
   have HN:=jX (neqR_run z z)
   rw [decide_eq_true rfl] at HN
   have HZl:=jX (fun u (hk:Keep [] wr u)=>KAt.ld hat1 hg1 ⟨u,hk⟩)
   clear hat1 hat2
   have hkc:(k:Int)<(E.length:Int):=by omega
   have hk0:(0:Int)≤(k:Int):=by omega
   unfold kv at HLa HLb HN HZl
   go_wp2_with fail
   refine wp_region_keep (by kernel_rfl) (by kernel_rfl) ?_
   repeat (first
    | go_big_quiet_skip
    | (go_big_quiet_want;first
     | (refine quiet_load _ _ _ (.agg (kC z)) rfl rfl (by rintro _ ⟨m,rfl⟩;exact HLa.out m) ?_;go_simp;go_big_quiet_on)|(refine quiet_load _ _ _ (.agg (kC z)) rfl rfl (by rintro _ ⟨m,rfl⟩;exact HLb.out m) ?_;go_simp;go_big_quiet_on)|(refine quiet_bin _ _ _ _ _ _ _ (_) rfl rfl rfl eqK_g (by intro w;exact HN.out w) ?_;go_simp;go_big_quiet_on)
     | (go_big_quiet_op;first|go_big_quiet_on|go_big_quiet_call (first
      | fail))))
   refine wpQuiet_nil ?_
   rintro w9 ⟨⟨_,hk_w9⟩,rfl⟩
   have HKq:=jX hk_w9
   have HKr:=jX (HKr.out.trans0 hk_w9)
   have HM:=jX (HM.out.move hk_w9).here
   have HK:=jX (HK.out.trans0 hk_w9)
   have Bg7:=jX (hk_w9.heap Bg7.out (by simp))
   have Bg9:=jX (hk_w9.heap Bg9.out (by simp))
   clear hk_w9 HLa HLb HN
   go_upto_region 10 with (fail)
   by_cases hk1:k=0
   ·subst hk1
    refine wp_region_heldT (S:=fun u=>Keep [] w9 u) 20 (by kernel_rfl) (by kernel_rfl) (fun _ _ d _ _ h=>by cases d<;>exact h) ?_
    have hS0:=Keep.drew [] w9
    have HM:=jX (HM.out.move hS0).here
    generalize World.drew w9=u at *
    refine' jG (v:=_) 0 hS0 (fun w hw=>?hrunfa0) (fun K hK=>?hnextfa0)
    case hrunfa0=>(skip;go_simp;try rfl)
    go_simp
    refine hK _ ?_
    clear hK K
    refine' jG (v:=_) 1 hS0 (fun w hw=>?hrunfa1) (fun K hK=>?hnextfa1)
    case hrunfa1=>(skip;go_simp;try rfl)
    go_simp
    refine hK _ ?_
    clear hK K
    refine' jG (v:=_) 2 hS0 (fun w hw=>?hrunfa2) (fun K hK=>?hnextfa2)
    case hrunfa2=>(skip;go_simp;try rfl)
    go_simp
    refine hK _ ?_
    clear hK K
    refine jS 3 hS0 (fun K hK=>?_)
    go_simp
    refine hK _ ?_
    clear hK K
    refine jS 4 hS0 (fun K hK=>?_)
    go_simp
    refine hK _ ?_
    clear hK K
    refine jS 5 hS0 (fun K hK=>?_)
    go_simp
    refine hK _ ?_
    clear hK K
    refine jS 6 hS0 (fun K hK=>?_)
    go_simp
    refine hK _ ?_
    clear hK K
    refine jS 7 hS0 (fun K hK=>?_)
    go_simp
    refine hK _ ?_
    clear hK K
    refine jS 8 hS0 (fun K hK=>?_)
    go_simp
    refine hK _ ?_
    clear hK K
    refine jS 9 hS0 (fun K hK=>?_)
    go_simp
    refine hK _ ?_
    clear hK K
    refine jS 10 hS0 (fun K hK=>?_)
    go_simp
    refine hK _ ?_
    clear hK K
    refine' jG (v:=_) 11 hS0 (fun w hw=>?hrunfa11) (fun K hK=>?hnextfa11)
    case hrunfa11=>(skip;go_simp;try rfl)
    go_simp
    refine hK _ ?_
    clear hK K
    refine' jG (v:=_) 12 hS0 (fun w hw=>?hrunfa12) (fun K hK=>?hnextfa12)
    case hrunfa12=>(skip;go_simp;try rfl)
    go_simp
    refine hK _ ?_
    clear hK K
    refine jS 13 hS0 (fun K hK=>?_)
    go_simp
    refine hK _ ?_
    clear hK K
    refine jS 14 hS0 (fun K hK=>?_)
    go_simp
    refine hK _ ?_
    clear hK K
    refine jS 15 hS0 (fun K hK=>?_)
    go_simp
    refine hK _ ?_
    clear hK K
    refine jS 16 hS0 (fun K hK=>?_)
    go_simp
    refine hK _ ?_
    clear hK K
    refine jS 17 hS0 (fun K hK=>?_)
    go_simp
    refine hK _ ?_
    clear hK K
    refine jS 18 hS0 (fun K hK=>?_)
    go_simp
    refine hK _ ?_
    clear hK K
    refine jS 19 hS0 (fun K hK=>?_)
    go_simp
    refine hK _ ?_
    clear hK K
    refine ⟨by kernel_rfl,?_⟩
    simp only [List.drop_succ_cons,List.drop_zero]
    have HKr:=jX (HKr.out.trans0 hS0)
    have HK:=jX (HK.out.trans0 hS0)
    have HKq:=jX (HKq.out.trans0 hS0)
    have Bg7:=jX (hS0.heap Bg7.out (by simp))
    have Bg9:=jX (hS0.heap Bg9.out (by simp))
    clear hS0
    go_wp2_with fail
    go_roundw
    case rel=>exact ⟨0+1,by omega,congrArg (Value.int .i64) (by omega),HKr.out⟩
    case measure=>simp [intOf];omega
   ·obtain⟨j,hj⟩:∃ j,k=j+1:=⟨k-1,by omega⟩
    have hjl:j<E.length:=by omega
    obtain⟨gy,oy,h5,hgy,haty⟩:=KR.elem (Vx1.out.later HKw.out) j hjl
    injection h5 with h5
    injection h5 with h6 h7
    subst h6 h7
    obtain⟨y,hy⟩:∃ y,E[j]=y:=⟨_,rfl⟩
    rw [hy] at haty
    have HY:Hid (E[j]? = some y):=jX (by rw [List.getElem?_eq_getElem hjl,hy])
    clear hy
    obtain⟨py,hpy⟩:∃ p,o1+j*9=p:=⟨_,rfl⟩
    rw [hpy] at haty
    have HYl:=jX (fun u (hk:Keep [] wr u)=>KAt.ld haty hgy ⟨u,hk⟩)
    unfold kv at HYl
    clear haty
    have HSP:=jX (fun h1 h2=>ends_near (x:=k2) HV0.out HV1.out HE.out HY.out (hj ▸ HZ.out) h1 h2)
    have Hj:=jX hj
    clear HY HZ
    have hsub:(k:Int)-1=(j:Int):=by omega
    have hwr:IntKind.i64.wrap (j:Int)=(j:Int):=IntWalk.i64_in _ (by omega)
    have hj0:(0:Int)≤(j:Int):=by omega
    have hjc:(j:Int)<(E.length:Int):=by omega
    have hkp:(0:Int)<(k:Int):=by omega
    have hkn:0<k:=by omega
    have hkd:decide ((0:Int)<(k:Int))=true:=decide_eq_true hkp
    have htj:((j:Int)).toNat=j:=by omega
    clear hj
    by_cases h1:cmpQ y.1 k2.1<0
    ·have hd1:decide (cmpQ y.1 k2.1<0)=true:=decide_eq_true h1
     by_cases h2:cmpQ k2.1 z.1<0
     ·have hd2:decide (cmpQ k2.1 z.1<0)=true:=decide_eq_true h2
      have HSD:=jX ((HSP.out h1 h2).1.trans Xe1.out)
      have HST:=jX ((HSP.out h1 h2).2.trans Xe0.out)
      refine wp_region_heldT (S:=fun u=>Keep [] w9 u) 20 (by kernel_rfl) (by kernel_rfl) (fun _ _ d _ _ h=>by cases d<;>exact h) ?_
      have hS0:=Keep.drew [] w9
      have HM:=jX (HM.out.move hS0).here
      generalize World.drew w9=u at *
      refine' jG (v:=_) 0 hS0 (fun w hw=>?hrunfc0) (fun K hK=>?hnextfc0)
      case hrunfc0=>(skip;go_simp;try rfl)
      go_simp
      refine hK _ ?_
      clear hK K
      refine' jG (v:=_) 1 hS0 (fun w hw=>?hrunfc1) (fun K hK=>?hnextfc1)
      case hrunfc1=>(skip;go_simp;try rfl)
      go_simp
      refine hK _ ?_
      clear hK K
      refine' jG (v:=_) 2 hS0 (fun w hw=>?hrunfc2) (fun K hK=>?hnextfc2)
      case hrunfc2=>(skip;go_simp;try rfl)
      go_simp
      refine hK _ ?_
      clear hK K
      refine' jG (v:=_) 3 hS0 (fun w hw=>?hrunfc3) (fun K hK=>?hnextfc3)
      case hrunfc3=>(skip;go_simp;try rfl)
      go_simp
      refine hK _ ?_
      clear hK K
      refine' jG (v:=_) 4 hS0 (fun w hw=>?hrunfc4) (fun K hK=>?hnextfc4)
      case hrunfc4=>(skip;go_simp;try rfl)
      go_simp
      refine hK _ ?_
      clear hK K
      refine' jG (v:=_) 5 hS0 (fun w hw=>?hrunfc5) (fun K hK=>?hnextfc5)
      case hrunfc5=>(skip;go_simp;try rfl)
      go_simp
      refine hK _ ?_
      clear hK K
      refine' jG (v:=_) 6 hS0 (fun w hw=>?hrunfc6) (fun K hK=>?hnextfc6)
      case hrunfc6=>(skip;go_simp;try rfl)
      go_simp
      refine hK _ ?_
      clear hK K
      refine jG (v:=.agg (kC y)) 7 hS0 (fun w hw=>exec_load _ _ ⟨g1,py,none⟩ _ rfl rfl (HYl.out w (HKq.out.trans0 hw))) (fun K hK=>?_)
      go_simp
      refine hK _ ?_
      clear hK K
      refine jG (v:=.agg (kC k2)) 8 hS0 (fun w hw=>exec_load _ _ ⟨g9,0,none⟩ _ rfl rfl (load_real _ _ _ _ (kAt_box (hw.heap Bg9.out (by simp))))) (fun K hK=>?_)
      go_simp
      refine hK _ ?_
      clear hK K
      refine jP 9 (fun K hK=>?_)
      refine wp_enter 38 #[.agg (kC y),.agg (kC k2)] (by go_simp) ?_
      refine (kcmp_c y k2 _).mono ?_
      rintro e y1 ⟨rfl,hk⟩
      have HM:=jX (HM.out.move hk).here
      have hS0:=hS0.trans0 hk
      refine ⟨_,rfl,?_⟩
      go_simp
      refine hK _ _ hS0 ?_
      clear hK K hk
      refine' jG (v:=_) 10 hS0 (fun w hw=>?hrunfc10) (fun K hK=>?hnextfc10)
      case hrunfc10=>(skip;go_simp;try rfl)
      go_simp
      refine hK _ ?_
      clear hK K
      refine' jG (v:=_) 11 hS0 (fun w hw=>?hrunfc11) (fun K hK=>?hnextfc11)
      case hrunfc11=>(skip;go_simp;try rfl)
      go_simp
      refine hK _ ?_
      clear hK K
      refine' jG (v:=_) 12 hS0 (fun w hw=>?hrunfc12) (fun K hK=>?hnextfc12)
      case hrunfc12=>(skip;go_simp;try rfl)
      go_simp
      refine hK _ ?_
      clear hK K
      refine jG (v:=.agg (kC k2)) 13 hS0 (fun w hw=>exec_load _ _ ⟨g9,0,none⟩ _ rfl rfl (load_real _ _ _ _ (kAt_box (hw.heap Bg9.out (by simp))))) (fun K hK=>?_)
      go_simp
      refine hK _ ?_
      clear hK K
      refine' jG (v:=_) 14 hS0 (fun w hw=>?hrunfc14) (fun K hK=>?hnextfc14)
      case hrunfc14=>(skip;go_simp;try rfl)
      go_simp
      refine hK _ ?_
      clear hK K
      refine' jG (v:=_) 15 hS0 (fun w hw=>?hrunfc15) (fun K hK=>?hnextfc15)
      case hrunfc15=>(skip;go_simp;try rfl)
      go_simp
      refine hK _ ?_
      clear hK K
      refine' jG (v:=_) 16 hS0 (fun w hw=>?hrunfc16) (fun K hK=>?hnextfc16)
      case hrunfc16=>(skip;go_simp;try rfl)
      go_simp
      refine hK _ ?_
      clear hK K
      refine jG (v:=.agg (kC z)) 17 hS0 (fun w hw=>exec_load _ _ ⟨g1,p,none⟩ _ rfl rfl (HZl.out w (HKq.out.trans0 hw))) (fun K hK=>?_)
      go_simp
      refine hK _ ?_
      clear hK K
      refine jP 18 (fun K hK=>?_)
      refine wp_enter 38 #[.agg (kC k2),.agg (kC z)] (by go_simp) ?_
      refine (kcmp_c k2 z _).mono ?_
      rintro e y2 ⟨rfl,hk⟩
      have HM:=jX (HM.out.move hk).here
      have hS0:=hS0.trans0 hk
      refine ⟨_,rfl,?_⟩
      go_simp
      refine hK _ _ hS0 ?_
      clear hK K hk
      refine' jG (v:=_) 19 hS0 (fun w hw=>?hrunfc19) (fun K hK=>?hnextfc19)
      case hrunfc19=>(skip;go_simp;try rfl)
      go_simp
      refine hK _ ?_
      clear hK K
      refine ⟨by kernel_rfl,?_⟩
      simp only [List.drop_succ_cons,List.drop_zero]
      have HKr:=jX (HKr.out.trans0 hS0)
      have HK:=jX (HK.out.trans0 hS0)
      have HKq:=jX (HKq.out.trans0 hS0)
      have Bg7:=jX (hS0.heap Bg7.out (by simp))
      have Bg9:=jX (hS0.heap Bg9.out (by simp))
      clear hS0
      clear h1 h2 HSP
      go_upto_region 11 with (fail)
      refine wp_region_lit ?_
      have pg7:=cell_of Bg7.out
      refine' wpList_R (v:=_) (by rfl) (?hrunha) (fun K hK=>?hnextha)
      case hrunha=>(go_simp;try rfl)
      go_simp
      refine hK _ _ ?_
      clear hK K
      clear pg7
      refine wpList_R (v:=.agg (kC k2)) (by rfl) (exec_load _ _ ⟨g9,0,none⟩ _ rfl rfl (kw_k Bg9.out ⟨_,Keep.refl _ _⟩)) (fun K hK=>?_)
      go_simp
      refine hK _ _ ?_
      clear hK K
      refine wpList_plain (by rfl) (fun K hK=>?_)
      refine wp_enter 17 #[.agg #[.slice da_w1 D0.length dc_w1,.slice ta_w1 T0.length tc_w1],.agg (kC k2)] (by go_simp) ?_
      refine (HM.out.matT (ma 2 rfl) (ma 3 rfl) Xe0.out Xe1.out).mono ?_
      rintro e y3 ⟨rfl,hm⟩
      have hk:=hm.keep
      have HM:=jX hm.here
      have HKr:=jX (HKr.out.trans0 hk)
      have HK:=jX (HK.out.trans0 hk)
      have HKq:=jX (HKq.out.trans0 hk)
      have Bg7:=jX (hk.heap Bg7.out (by simp))
      have Bg9:=jX (hk.heap Bg9.out (by simp))
      clear hm hk
      refine ⟨_,rfl,?_⟩
      go_simp
      refine hK _ _ ?_
      clear hK K
      go_upto_region 12 with (fail)
      refine wp_region_heldT (S:=fun u=>Keep [] y3 u) 29 (by kernel_rfl) (by kernel_rfl) (fun _ _ d _ _ h=>by cases d<;>exact h) ?_
      have hS0:=Keep.drew [] y3
      have HM:=jX (HM.out.move hS0).here
      generalize World.drew y3=u at *
      refine' jG (v:=_) 0 hS0 (fun w hw=>?hrung0) (fun K hK=>?hnextg0)
      case hrung0=>(skip;go_simp;try rfl)
      go_simp
      refine hK _ ?_
      clear hK K
      refine' jG (v:=_) 1 hS0 (fun w hw=>?hrung1) (fun K hK=>?hnextg1)
      case hrung1=>(skip;go_simp;try rfl)
      go_simp
      refine hK _ ?_
      clear hK K
      refine' jG (v:=_) 2 hS0 (fun w hw=>?hrung2) (fun K hK=>?hnextg2)
      case hrung2=>(have pg7:=cell_of (hw.heap Bg7.out (by simp));go_simp;try rfl)
      go_simp
      refine hK _ ?_
      clear hK K
      refine' jG (v:=_) 3 hS0 (fun w hw=>?hrung3) (fun K hK=>?hnextg3)
      case hrung3=>(skip;go_simp;try rfl)
      go_simp
      refine hK _ ?_
      clear hK K
      refine' jG (v:=_) 4 hS0 (fun w hw=>?hrung4) (fun K hK=>?hnextg4)
      case hrung4=>(skip;go_simp;try rfl)
      go_simp
      refine hK _ ?_
      clear hK K
      refine' jG (v:=_) 5 hS0 (fun w hw=>?hrung5) (fun K hK=>?hnextg5)
      case hrung5=>(skip;go_simp;try rfl)
      go_simp
      refine hK _ ?_
      clear hK K
      refine' jG (v:=_) 6 hS0 (fun w hw=>?hrung6) (fun K hK=>?hnextg6)
      case hrung6=>(skip;go_simp;try rfl)
      go_simp
      refine hK _ ?_
      clear hK K
      refine jG (v:=.agg (kC y)) 7 hS0 (fun w hw=>exec_load _ _ ⟨g1,py,none⟩ _ rfl rfl (HYl.out w (HKq.out.trans0 hw))) (fun K hK=>?_)
      go_simp
      refine hK _ ?_
      clear hK K
      refine' jG (v:=_) 8 hS0 (fun w hw=>?hrung8) (fun K hK=>?hnextg8)
      case hrung8=>(skip;go_simp;try rfl)
      go_simp
      refine hK _ ?_
      clear hK K
      refine' jG (v:=_) 9 hS0 (fun w hw=>?hrung9) (fun K hK=>?hnextg9)
      case hrung9=>(skip;go_simp;try rfl)
      go_simp
      refine hK _ ?_
      clear hK K
      refine' jG (v:=_) 10 hS0 (fun w hw=>?hrung10) (fun K hK=>?hnextg10)
      case hrung10=>(skip;go_simp;try rfl)
      go_simp
      refine hK _ ?_
      clear hK K
      refine jG (v:=.agg (kC z)) 11 hS0 (fun w hw=>exec_load _ _ ⟨g1,p,none⟩ _ rfl rfl (HZl.out w (HKq.out.trans0 hw))) (fun K hK=>?_)
      go_simp
      refine hK _ ?_
      clear hK K
      refine jP 12 (fun K hK=>?_)
      refine wp_enter 39 #[.slice da_w1 D0.length dc_w1,.agg (kC y),.agg (kC z)] (by go_simp) ?_
      refine (HM.out.spanT (ma 2 rfl) HSD.out).mono ?_
      rintro e y4 ⟨rfl,hm_y4⟩
      have hk:=hm_y4.keep
      have HM:=jX hm_y4.here
      clear hm_y4
      have hS0:=hS0.trans0 hk
      refine ⟨_,rfl,?_⟩
      go_simp
      refine hK _ _ hS0 ?_
      clear hK K hk
      refine' jG (v:=_) 13 hS0 (fun w hw=>?hrung13) (fun K hK=>?hnextg13)
      case hrung13=>(skip;go_simp;try rfl)
      go_simp
      refine hK _ ?_
      clear hK K
      refine' jG (v:=_) 14 hS0 (fun w hw=>?hrung14) (fun K hK=>?hnextg14)
      case hrung14=>(skip;go_simp;try rfl)
      go_simp
      refine hK _ ?_
      clear hK K
      refine' jG (v:=_) 15 hS0 (fun w hw=>?hrung15) (fun K hK=>?hnextg15)
      case hrung15=>(skip;go_simp;try rfl)
      go_simp
      refine hK _ ?_
      clear hK K
      refine' jG (v:=_) 16 hS0 (fun w hw=>?hrung16) (fun K hK=>?hnextg16)
      case hrung16=>(skip;go_simp;try rfl)
      go_simp
      refine hK _ ?_
      clear hK K
      refine' jG (v:=_) 17 hS0 (fun w hw=>?hrung17) (fun K hK=>?hnextg17)
      case hrung17=>(have pg7:=cell_of (hw.heap Bg7.out (by simp));go_simp;try rfl)
      go_simp
      refine hK _ ?_
      clear hK K
      refine' jG (v:=_) 18 hS0 (fun w hw=>?hrung18) (fun K hK=>?hnextg18)
      case hrung18=>(skip;go_simp;try rfl)
      go_simp
      refine hK _ ?_
      clear hK K
      refine' jG (v:=_) 19 hS0 (fun w hw=>?hrung19) (fun K hK=>?hnextg19)
      case hrung19=>(skip;go_simp;try rfl)
      go_simp
      refine hK _ ?_
      clear hK K
      refine' jG (v:=_) 20 hS0 (fun w hw=>?hrung20) (fun K hK=>?hnextg20)
      case hrung20=>(skip;go_simp;try rfl)
      go_simp
      refine hK _ ?_
      clear hK K
      refine' jG (v:=_) 21 hS0 (fun w hw=>?hrung21) (fun K hK=>?hnextg21)
      case hrung21=>(skip;go_simp;try rfl)
      go_simp
      refine hK _ ?_
      clear hK K
      refine jG (v:=.agg (kC y)) 22 hS0 (fun w hw=>exec_load _ _ ⟨g1,py,none⟩ _ rfl rfl (HYl.out w (HKq.out.trans0 hw))) (fun K hK=>?_)
      go_simp
      refine hK _ ?_
      clear hK K
      refine' jG (v:=_) 23 hS0 (fun w hw=>?hrung23) (fun K hK=>?hnextg23)
      case hrung23=>(skip;go_simp;try rfl)
      go_simp
      refine hK _ ?_
      clear hK K
      refine' jG (v:=_) 24 hS0 (fun w hw=>?hrung24) (fun K hK=>?hnextg24)
      case hrung24=>(skip;go_simp;try rfl)
      go_simp
      refine hK _ ?_
      clear hK K
      refine' jG (v:=_) 25 hS0 (fun w hw=>?hrung25) (fun K hK=>?hnextg25)
      case hrung25=>(skip;go_simp;try rfl)
      go_simp
      refine hK _ ?_
      clear hK K
      refine jG (v:=.agg (kC z)) 26 hS0 (fun w hw=>exec_load _ _ ⟨g1,p,none⟩ _ rfl rfl (HZl.out w (HKq.out.trans0 hw))) (fun K hK=>?_)
      go_simp
      refine hK _ ?_
      clear hK K
      refine jP 27 (fun K hK=>?_)
      refine wp_enter 39 #[.slice ta_w1 T0.length tc_w1,.agg (kC y),.agg (kC z)] (by go_simp) ?_
      refine (HM.out.spanT (ma 3 rfl) HST.out).mono ?_
      rintro e y5 ⟨rfl,hm_y5⟩
      have hk:=hm_y5.keep
      have HM:=jX hm_y5.here
      clear hm_y5
      have hS0:=hS0.trans0 hk
      refine ⟨_,rfl,?_⟩
      go_simp
      refine hK _ _ hS0 ?_
      clear hK K hk
      refine' jG (v:=_) 28 hS0 (fun w hw=>?hrung28) (fun K hK=>?hnextg28)
      case hrung28=>(skip;go_simp;try rfl)
      go_simp
      refine hK _ ?_
      clear hK K
      refine ⟨by kernel_rfl,?_⟩
      simp only [List.drop_succ_cons,List.drop_zero]
      have HKr:=jX (HKr.out.trans0 hS0)
      have HK:=jX (HK.out.trans0 hS0)
      have HKq:=jX (HKq.out.trans0 hS0)
      have Bg7:=jX (hS0.heap Bg7.out (by simp))
      have Bg9:=jX (hS0.heap Bg9.out (by simp))
      clear hS0
      go_wp2_with fail
      go_roundw
      case rel=>exact ⟨k+1,by omega,congrArg (Value.int .i64) (by omega),HKr.out⟩
      case measure=>simp [intOf];omega
     ·have hd2:decide (cmpQ k2.1 z.1<0)=false:=decide_eq_false h2
      refine wp_region_heldT (S:=fun u=>Keep [] w9 u) 20 (by kernel_rfl) (by kernel_rfl) (fun _ _ d _ _ h=>by cases d<;>exact h) ?_
      have hS0:=Keep.drew [] w9
      have HM:=jX (HM.out.move hS0).here
      generalize World.drew w9=u at *
      refine' jG (v:=_) 0 hS0 (fun w hw=>?hrunfd0) (fun K hK=>?hnextfd0)
      case hrunfd0=>(skip;go_simp;try rfl)
      go_simp
      refine hK _ ?_
      clear hK K
      refine' jG (v:=_) 1 hS0 (fun w hw=>?hrunfd1) (fun K hK=>?hnextfd1)
      case hrunfd1=>(skip;go_simp;try rfl)
      go_simp
      refine hK _ ?_
      clear hK K
      refine' jG (v:=_) 2 hS0 (fun w hw=>?hrunfd2) (fun K hK=>?hnextfd2)
      case hrunfd2=>(skip;go_simp;try rfl)
      go_simp
      refine hK _ ?_
      clear hK K
      refine' jG (v:=_) 3 hS0 (fun w hw=>?hrunfd3) (fun K hK=>?hnextfd3)
      case hrunfd3=>(skip;go_simp;try rfl)
      go_simp
      refine hK _ ?_
      clear hK K
      refine' jG (v:=_) 4 hS0 (fun w hw=>?hrunfd4) (fun K hK=>?hnextfd4)
      case hrunfd4=>(skip;go_simp;try rfl)
      go_simp
      refine hK _ ?_
      clear hK K
      refine' jG (v:=_) 5 hS0 (fun w hw=>?hrunfd5) (fun K hK=>?hnextfd5)
      case hrunfd5=>(skip;go_simp;try rfl)
      go_simp
      refine hK _ ?_
      clear hK K
      refine' jG (v:=_) 6 hS0 (fun w hw=>?hrunfd6) (fun K hK=>?hnextfd6)
      case hrunfd6=>(skip;go_simp;try rfl)
      go_simp
      refine hK _ ?_
      clear hK K
      refine jG (v:=.agg (kC y)) 7 hS0 (fun w hw=>exec_load _ _ ⟨g1,py,none⟩ _ rfl rfl (HYl.out w (HKq.out.trans0 hw))) (fun K hK=>?_)
      go_simp
      refine hK _ ?_
      clear hK K
      refine jG (v:=.agg (kC k2)) 8 hS0 (fun w hw=>exec_load _ _ ⟨g9,0,none⟩ _ rfl rfl (load_real _ _ _ _ (kAt_box (hw.heap Bg9.out (by simp))))) (fun K hK=>?_)
      go_simp
      refine hK _ ?_
      clear hK K
      refine jP 9 (fun K hK=>?_)
      refine wp_enter 38 #[.agg (kC y),.agg (kC k2)] (by go_simp) ?_
      refine (kcmp_c y k2 _).mono ?_
      rintro e y1 ⟨rfl,hk⟩
      have HM:=jX (HM.out.move hk).here
      have hS0:=hS0.trans0 hk
      refine ⟨_,rfl,?_⟩
      go_simp
      refine hK _ _ hS0 ?_
      clear hK K hk
      refine' jG (v:=_) 10 hS0 (fun w hw=>?hrunfd10) (fun K hK=>?hnextfd10)
      case hrunfd10=>(skip;go_simp;try rfl)
      go_simp
      refine hK _ ?_
      clear hK K
      refine' jG (v:=_) 11 hS0 (fun w hw=>?hrunfd11) (fun K hK=>?hnextfd11)
      case hrunfd11=>(skip;go_simp;try rfl)
      go_simp
      refine hK _ ?_
      clear hK K
      refine' jG (v:=_) 12 hS0 (fun w hw=>?hrunfd12) (fun K hK=>?hnextfd12)
      case hrunfd12=>(skip;go_simp;try rfl)
      go_simp
      refine hK _ ?_
      clear hK K
      refine jG (v:=.agg (kC k2)) 13 hS0 (fun w hw=>exec_load _ _ ⟨g9,0,none⟩ _ rfl rfl (load_real _ _ _ _ (kAt_box (hw.heap Bg9.out (by simp))))) (fun K hK=>?_)
      go_simp
      refine hK _ ?_
      clear hK K
      refine' jG (v:=_) 14 hS0 (fun w hw=>?hrunfd14) (fun K hK=>?hnextfd14)
      case hrunfd14=>(skip;go_simp;try rfl)
      go_simp
      refine hK _ ?_
      clear hK K
      refine' jG (v:=_) 15 hS0 (fun w hw=>?hrunfd15) (fun K hK=>?hnextfd15)
      case hrunfd15=>(skip;go_simp;try rfl)
      go_simp
      refine hK _ ?_
      clear hK K
      refine' jG (v:=_) 16 hS0 (fun w hw=>?hrunfd16) (fun K hK=>?hnextfd16)
      case hrunfd16=>(skip;go_simp;try rfl)
      go_simp
      refine hK _ ?_
      clear hK K
      refine jG (v:=.agg (kC z)) 17 hS0 (fun w hw=>exec_load _ _ ⟨g1,p,none⟩ _ rfl rfl (HZl.out w (HKq.out.trans0 hw))) (fun K hK=>?_)
      go_simp
      refine hK _ ?_
      clear hK K
      refine jP 18 (fun K hK=>?_)
      refine wp_enter 38 #[.agg (kC k2),.agg (kC z)] (by go_simp) ?_
      refine (kcmp_c k2 z _).mono ?_
      rintro e y2 ⟨rfl,hk⟩
      have HM:=jX (HM.out.move hk).here
      have hS0:=hS0.trans0 hk
      refine ⟨_,rfl,?_⟩
      go_simp
      refine hK _ _ hS0 ?_
      clear hK K hk
      refine' jG (v:=_) 19 hS0 (fun w hw=>?hrunfd19) (fun K hK=>?hnextfd19)
      case hrunfd19=>(skip;go_simp;try rfl)
      go_simp
      refine hK _ ?_
      clear hK K
      refine ⟨by kernel_rfl,?_⟩
      simp only [List.drop_succ_cons,List.drop_zero]
      have HKr:=jX (HKr.out.trans0 hS0)
      have HK:=jX (HK.out.trans0 hS0)
      have HKq:=jX (HKq.out.trans0 hS0)
      have Bg7:=jX (hS0.heap Bg7.out (by simp))
      have Bg9:=jX (hS0.heap Bg9.out (by simp))
      clear hS0
      go_wp2_with fail
      go_roundw
      case rel=>exact ⟨k+1,by omega,congrArg (Value.int .i64) (by omega),HKr.out⟩
      case measure=>simp [intOf];omega
    ·have hd1:decide (cmpQ y.1 k2.1<0)=false:=decide_eq_false h1
     refine wp_region_heldT (S:=fun u=>Keep [] w9 u) 20 (by kernel_rfl) (by kernel_rfl) (fun _ _ d _ _ h=>by cases d<;>exact h) ?_
     have hS0:=Keep.drew [] w9
     have HM:=jX (HM.out.move hS0).here
     generalize World.drew w9=u at *
     refine' jG (v:=_) 0 hS0 (fun w hw=>?hrunfb0) (fun K hK=>?hnextfb0)
     case hrunfb0=>(skip;go_simp;try rfl)
     go_simp
     refine hK _ ?_
     clear hK K
     refine' jG (v:=_) 1 hS0 (fun w hw=>?hrunfb1) (fun K hK=>?hnextfb1)
     case hrunfb1=>(skip;go_simp;try rfl)
     go_simp
     refine hK _ ?_
     clear hK K
     refine' jG (v:=_) 2 hS0 (fun w hw=>?hrunfb2) (fun K hK=>?hnextfb2)
     case hrunfb2=>(skip;go_simp;try rfl)
     go_simp
     refine hK _ ?_
     clear hK K
     refine' jG (v:=_) 3 hS0 (fun w hw=>?hrunfb3) (fun K hK=>?hnextfb3)
     case hrunfb3=>(skip;go_simp;try rfl)
     go_simp
     refine hK _ ?_
     clear hK K
     refine' jG (v:=_) 4 hS0 (fun w hw=>?hrunfb4) (fun K hK=>?hnextfb4)
     case hrunfb4=>(skip;go_simp;try rfl)
     go_simp
     refine hK _ ?_
     clear hK K
     refine' jG (v:=_) 5 hS0 (fun w hw=>?hrunfb5) (fun K hK=>?hnextfb5)
     case hrunfb5=>(skip;go_simp;try rfl)
     go_simp
     refine hK _ ?_
     clear hK K
     refine' jG (v:=_) 6 hS0 (fun w hw=>?hrunfb6) (fun K hK=>?hnextfb6)
     case hrunfb6=>(skip;go_simp;try rfl)
     go_simp
     refine hK _ ?_
     clear hK K
     refine jG (v:=.agg (kC y)) 7 hS0 (fun w hw=>exec_load _ _ ⟨g1,py,none⟩ _ rfl rfl (HYl.out w (HKq.out.trans0 hw))) (fun K hK=>?_)
     go_simp
     refine hK _ ?_
     clear hK K
     refine jG (v:=.agg (kC k2)) 8 hS0 (fun w hw=>exec_load _ _ ⟨g9,0,none⟩ _ rfl rfl (load_real _ _ _ _ (kAt_box (hw.heap Bg9.out (by simp))))) (fun K hK=>?_)
     go_simp
     refine hK _ ?_
     clear hK K
     refine jP 9 (fun K hK=>?_)
     refine wp_enter 38 #[.agg (kC y),.agg (kC k2)] (by go_simp) ?_
     refine (kcmp_c y k2 _).mono ?_
     rintro e y1 ⟨rfl,hk⟩
     have HM:=jX (HM.out.move hk).here
     have hS0:=hS0.trans0 hk
     refine ⟨_,rfl,?_⟩
     go_simp
     refine hK _ _ hS0 ?_
     clear hK K hk
     refine' jG (v:=_) 10 hS0 (fun w hw=>?hrunfb10) (fun K hK=>?hnextfb10)
     case hrunfb10=>(skip;go_simp;try rfl)
     go_simp
     refine hK _ ?_
     clear hK K
     refine' jG (v:=_) 11 hS0 (fun w hw=>?hrunfb11) (fun K hK=>?hnextfb11)
     case hrunfb11=>(skip;go_simp;try rfl)
     go_simp
     refine hK _ ?_
     clear hK K
     refine' jG (v:=_) 12 hS0 (fun w hw=>?hrunfb12) (fun K hK=>?hnextfb12)
     case hrunfb12=>(skip;go_simp;try rfl)
     go_simp
     refine hK _ ?_
     clear hK K
     refine jS 13 hS0 (fun K hK=>?_)
     go_simp
     refine hK _ ?_
     clear hK K
     refine jS 14 hS0 (fun K hK=>?_)
     go_simp
     refine hK _ ?_
     clear hK K
     refine jS 15 hS0 (fun K hK=>?_)
     go_simp
     refine hK _ ?_
     clear hK K
     refine jS 16 hS0 (fun K hK=>?_)
     go_simp
     refine hK _ ?_
     clear hK K
     refine jS 17 hS0 (fun K hK=>?_)
     go_simp
     refine hK _ ?_
     clear hK K
     refine jS 18 hS0 (fun K hK=>?_)
     go_simp
     refine hK _ ?_
     clear hK K
     refine jS 19 hS0 (fun K hK=>?_)
     go_simp
     refine hK _ ?_
     clear hK K
     refine ⟨by kernel_rfl,?_⟩
     simp only [List.drop_succ_cons,List.drop_zero]
     have HKr:=jX (HKr.out.trans0 hS0)
     have HK:=jX (HK.out.trans0 hS0)
     have HKq:=jX (HKq.out.trans0 hS0)
     have Bg7:=jX (hS0.heap Bg7.out (by simp))
     have Bg9:=jX (hS0.heap Bg9.out (by simp))
     clear hS0
     go_wp2_with fail
     go_roundw
     case rel=>exact ⟨k+1,by omega,congrArg (Value.int .i64) (by omega),HKr.out⟩
     case measure=>simp [intOf];omega
  ·go_wp2_with fail
   go_ret
   exact ⟨rfl,HK.out⟩
end Go.Proofs.YtejegogbhpmgfaaGreatDoor
