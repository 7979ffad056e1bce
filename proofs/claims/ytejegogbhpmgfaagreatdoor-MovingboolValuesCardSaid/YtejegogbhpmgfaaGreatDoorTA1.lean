/- Parts of a proof about this translation: Oq@1, Base@1, Nb@1, Pk@1, Ri@1, Ss@1, Pn@1, Sx@1, Ug@1, Uh@1, Vb@1, Vd@1, Vk@1, Vi@1, Me@1, Mi@1, Mj@1, Ml@1, Ga@1, Iz@1, Gb@1, H1@1. -/
import Derived.WalkKit
import Derived.WalkLawsBesides
import Derived.WalkSpells
import Derived.ProofKit
import Derived.OpenShut
import Derived.Handy
import Derived.BigQuiet
import Derived.Lib.Hide
import Derived.Deep.AppendSrc
import Derived.Lib.Builder
import Derived.Lib.AppendStr
import Derived.Lib.UnsafeStr
import Derived.Lib.Walk
import Derived.Lib.Strings
import Derived.Laws.Externs
import Derived.Sort.Grow
import Derived.Deep.Draws
import Derived.StillTail
import Derived.OrdersHeld
import Derived.Deep.LoopGhost
import Derived.IntWalk
import Derived.Lib.SliceRun
import Derived.Test.YtejegogbhpmgfaaGreatDoorA01
import Derived.Test.YtejegogbhpmgfaaGreatDoorA02
import Derived.Test.YtejegogbhpmgfaaGreatDoorProg
import Derived.Test.YtejegogbhpmgfaaGreatDoorA13
import Derived.Test.YtejegogbhpmgfaaGreatDoorA12
import Derived.Test.YtejegogbhpmgfaaGreatDoorA10
import Derived.Test.YtejegogbhpmgfaaGreatDoorA31
import Derived.Test.YtejegogbhpmgfaaGreatDoorA30
import Derived.Test.YtejegogbhpmgfaaGreatDoorA32
import Derived.Test.YtejegogbhpmgfaaGreatDoorA26
import Derived.Test.YtejegogbhpmgfaaGreatDoorA33
import Derived.Test.YtejegogbhpmgfaaGreatDoorA25
import Derived.Test.YtejegogbhpmgfaaGreatDoorA34
import Derived.Test.YtejegogbhpmgfaaGreatDoorA35
import Derived.Test.YtejegogbhpmgfaaGreatDoorA38
import Derived.Test.YtejegogbhpmgfaaGreatDoorA37
set_option linter.unusedVariables false
set_option linter.unusedSimpArgs false
set_option maxRecDepth 100000
set_option maxHeartbeats 8000000
namespace Go.Proofs.YtejegogbhpmgfaaGreatDoor
theorem Below1.mono {q q':Rat} {x:Qn} (hx:0≤x.r) (h:Below1 q x) (hq:q'≤q):Below1 q' x:=Pos.mono hx h (by grind)
end Go.Proofs.YtejegogbhpmgfaaGreatDoor
namespace Go.Proofs.YtejegogbhpmgfaaGreatDoor
open Go.RowKit
theorem Keep.below {F:List Nat} {w w':World} {B:Nat} (h:Keep F w w') (hF:∀ x∈F,B≤x) (hB:B≤w.heap.size):Below B w w' :=
 ⟨h.os,h.tape,h.output,h.size,fun k hk=>h.block k (by omega) (fun hm=>by have:=hF k hm;omega)⟩
theorem Keep.drewN (F:List Nat) (w:World) (n:Nat):Keep F w (w.drewN n):=⟨rfl,rfl,rfl,Nat.le_refl _,Nat.le_add_right _ _,fun _ _ _=>rfl⟩
section
variable {P:Program} {ops:Array Oper} {C:World→Prop} {Q:Act→Prop} {a:Act} {o:Oper} {rest:List Oper}
end
section
variable {P:Program} (w:World)
end
theorem RowR.lt {w:World} {sv:Value} {xs:List Value} (h:RowR w sv xs):∀ x∈rowF sv,x<w.heap.size:=by
 rcases h with ⟨rfl,_⟩|⟨g,o,c,rfl,hg,hc⟩
 ·simp [rowF]
 ·simpa [rowF] using hg
theorem RowR.elem {w:World} {sv:Value} {xs:List Value} (h:RowR w sv xs) (hn:0<xs.length):∃ g o c,sv = .slice (some ⟨g,o,none⟩) xs.length c∧∀ i v,xs[i]? = some v→w.cell? ⟨g,o+i,none⟩=some v:=by
 rcases h with ⟨rfl,rfl⟩|⟨g,o,c,rfl,hg,hc⟩
 ·simp at hn
 ·exact ⟨g,o,c,rfl,hc⟩
end Go.Proofs.YtejegogbhpmgfaaGreatDoor
namespace Go.Proofs.YtejegogbhpmgfaaGreatDoor
open Go.RowKit
section
variable {P:Program} {ops:Array Oper} {md:Region.Mode} {C:World→Prop}
end
end Go.Proofs.YtejegogbhpmgfaaGreatDoor
namespace Go.Proofs.YtejegogbhpmgfaaGreatDoor
open Go.RowKit
section
variable {P:Program} {ops:Array Oper} {md:Region.Mode} {S:World→Prop} {Q:Exit→Act→World→Prop}
end
end Go.Proofs.YtejegogbhpmgfaaGreatDoor
namespace Go.Proofs.YtejegogbhpmgfaaGreatDoor
open Go.RowKit
section
variable {P:Program} {ops:Array Oper} {md:Region.Mode} {S:World→Prop} {Q:Exit→Act→World→Prop}
end
end Go.Proofs.YtejegogbhpmgfaaGreatDoor
namespace Go.Proofs.YtejegogbhpmgfaaGreatDoor
open Go.RowKit
section
variable {P:Program} {ops:Array Oper} {md:Region.Mode} {C S:World→Prop}
variable {Q:Exit→Act→World→Prop}
end
end Go.Proofs.YtejegogbhpmgfaaGreatDoor
namespace Go.Proofs.YtejegogbhpmgfaaGreatDoor
theorem K.lt_def {x y:K}:x<y↔Lt x.1 y.1:=Iff.rfl
theorem K.le_def {x y:K}:x≤y ↔ ¬ Lt y.1 x.1:=Iff.rfl
end Go.Proofs.YtejegogbhpmgfaaGreatDoor
namespace Go.Proofs.YtejegogbhpmgfaaGreatDoor
open Go.RowKit
theorem OI.later {w0 w w':World} {v:Value} {l:List Nat} (h:OI w0 w v l) (hk:Keep [] w w'):OI w0 w' v l :=
 ⟨own_keep' h.row hk (by simp),h.base,h.keep.trans0 hk⟩
theorem IvAt.all {w:World} {b o:Nat} {i:Iv K} (h:IvAt w b o i):(w.cell? ⟨b,o,none⟩=some (.bool (sgB i.f.pt.1.p.num)))∧(w.cell? ⟨b,o+1,none⟩=some (.string (mgS i.f.pt.1.p.num)))∧(w.cell? ⟨b,o+2,none⟩=some (.bool false))∧(w.cell? ⟨b,o+3,none⟩=some (.string (dnS i.f.pt.1.p.den)))∧(w.cell? ⟨b,o+4,none⟩=some (.bool (sgB i.f.pt.1.r.num)))∧(w.cell? ⟨b,o+5,none⟩=some (.string (mgS i.f.pt.1.r.num)))∧(w.cell? ⟨b,o+6,none⟩=some (.bool false))∧(w.cell? ⟨b,o+7,none⟩=some (.string (dnS i.f.pt.1.r.den)))∧(w.cell? ⟨b,o+8,none⟩=some (.bool i.f.pt.1.neg))∧(w.cell? ⟨b,o+9,none⟩=some (.bool (sgB i.l.pt.1.p.num)))∧(w.cell? ⟨b,o+10,none⟩=some (.string (mgS i.l.pt.1.p.num)))∧(w.cell? ⟨b,o+11,none⟩=some (.bool false))∧(w.cell? ⟨b,o+12,none⟩=some (.string (dnS i.l.pt.1.p.den)))∧(w.cell? ⟨b,o+13,none⟩=some (.bool (sgB i.l.pt.1.r.num)))∧(w.cell? ⟨b,o+14,none⟩=some (.string (mgS i.l.pt.1.r.num)))∧(w.cell? ⟨b,o+15,none⟩=some (.bool false))∧(w.cell? ⟨b,o+16,none⟩=some (.string (dnS i.l.pt.1.r.den)))∧(w.cell? ⟨b,o+17,none⟩=some (.bool i.l.pt.1.neg))∧(w.cell? ⟨b,o+18,none⟩=some (.bool i.f.beh))∧(w.cell? ⟨b,o+19,none⟩=some (.bool (!i.l.beh))) :=
 ⟨h 0 _ rfl,h 1 _ rfl,h 2 _ rfl,h 3 _ rfl,h 4 _ rfl,h 5 _ rfl,h 6 _ rfl,h 7 _ rfl,h 8 _ rfl,h 9 _ rfl,h 10 _ rfl,h 11 _ rfl,h 12 _ rfl,h 13 _ rfl,h 14 _ rfl,h 15 _ rfl,h 16 _ rfl,h 17 _ rfl,h 18 _ rfl,h 19 _ rfl⟩
theorem KAt.all {w:World} {b o:Nat} {x:K} (h:KAt w b o x.1):(w.cell? ⟨b,o,none⟩=some (.bool (sgB x.1.p.num)))∧(w.cell? ⟨b,o+1,none⟩=some (.string (mgS x.1.p.num)))∧(w.cell? ⟨b,o+2,none⟩=some (.bool false))∧(w.cell? ⟨b,o+3,none⟩=some (.string (dnS x.1.p.den)))∧(w.cell? ⟨b,o+4,none⟩=some (.bool (sgB x.1.r.num)))∧(w.cell? ⟨b,o+5,none⟩=some (.string (mgS x.1.r.num)))∧(w.cell? ⟨b,o+6,none⟩=some (.bool false))∧(w.cell? ⟨b,o+7,none⟩=some (.string (dnS x.1.r.den)))∧(w.cell? ⟨b,o+8,none⟩=some (.bool x.1.neg)) :=
 ⟨h 0 _ rfl,h 1 _ rfl,h 2 _ rfl,h 3 _ rfl,h 4 _ rfl,h 5 _ rfl,h 6 _ rfl,h 7 _ rfl,h 8 _ rfl⟩
section
variable {α:Type} (enc:α→List Value)
variable {enc}
theorem OE.step {e:TypeId} {k:Nat} {w0 wr wa:World} {v:Value} {l:List α} (h:OE enc e k w0 wr v l) {g cap:Nat} {x:α} {o:Obj} (hoa:wa.ownsRow 0 e k (.slice (some ⟨g,0,none⟩) (l.length+1) cap) (l.length+1) (l.flatMap enc++enc x))
  (hga:(wr.alloc o).grownBy wa v.ownBlock) (hfa:some g=v.ownBlock∨wr.heap.size+1≤g) (hda:(wr.alloc o).drawn≤wa.drawn) :
  OE enc e k w0 wa (.slice (some ⟨g,0,none⟩) (l.length+1) cap) (l++[x]):=by
 refine ⟨?_,?_,?_⟩
 ·rw [List.flatMap_append,List.length_append]
  simpa using hoa
 ·intro k hk
  simp [Value.ownBlock] at hk
  subst hk
  rcases hfa with h1|h1
  ·exact h.base _ h1.symm
  ·have:=h.keep.size
   omega
 ·exact (h.keep.allocPast _).grownPast hga hda (fun k hk=>h.base k hk)
end
end Go.Proofs.YtejegogbhpmgfaaGreatDoor
namespace Go.Proofs.YtejegogbhpmgfaaGreatDoor
theorem PtsIn.sub {S:List K} {l m:List (Iv K)} (h:PtsIn S l) (hm:∀ i∈m,i∈l):PtsIn S m:=fun i hi=>h i (hm i hi)
theorem NormF.of {l:List (Iv K)}:∀ {b:Bd K},(∀ i∈l,b<i.f)→(∀ i∈l,i.f<i.l)→l.Pairwise (fun i j=>i.l<j.f)→NormF l b:=by
 induction l with
 | nil=>intro b _ _ _;trivial
 | cons i l ih =>
  intro b h1 h2 h3
  obtain⟨h4,h5⟩:=List.pairwise_cons.1 h3
  exact ⟨h1 i (by simp),h2 i (by simp),ih h4 (fun j hj=>h2 j (by simp [hj])) h5⟩
theorem Norm.of {l:List (Iv K)} (h2:∀ i∈l,i.f<i.l) (h3:l.Pairwise (fun i j=>i.l<j.f)):Norm l:=by
 cases l with
 | nil=>trivial
 | cons i l =>
  obtain⟨h4,h5⟩:=List.pairwise_cons.1 h3
  exact ⟨h2 i (by simp),NormF.of h4 (fun j hj=>h2 j (by simp [hj])) h5⟩
theorem Per.nil (S:List K):Per S []:=⟨trivial,PtsIn.nil S⟩
end Go.Proofs.YtejegogbhpmgfaaGreatDoor
namespace Go.Proofs.YtejegogbhpmgfaaGreatDoor
open Go.RowKit
open Classical
theorem equal_c (l m:List (Iv K)) (w:World) (sv tv:Value) (hr:IvR w sv l) (hs:IvR w tv m) (h9:l.length≤1000000000) (h8:m.length≤1000000000) :
  Calls Tryz.prog 21 #[sv,tv] w fun e w'=>e = .returned (.bool (decide (l=m)))∧Keep [] w w':=by
 have HR:=jX hr
 have HS:=jX hs
 obtain⟨ao,ac,rfl,_⟩:=hr.form
 obtain⟨bo,bc,rfl,_⟩:=hs.form
 clear hr hs
 by_cases hlen:l.length=m.length
 ·have hne:((l.length:Int) != (m.length:Int))=false:=by rw [hlen];simp
  have Hlen:=jX hlen
  clear hlen
  go_enter Tryz.func21,Tryz.ntmps21
  go_wp2_with fail
  go_loopw [5] (fun c wr=>∃ k:Nat,k≤l.length∧c = .int .i64 (k:Int)∧l.take k=m.take k∧Keep [] w wr) (fun c _=>l.length-(intOf c).toNat)
  case atStart=>exact ⟨0,Nat.zero_le _,rfl,rfl,Keep.refl _ _⟩
  case round =>
   obtain⟨k,hk,rfl,heq,hkeep⟩:=hrel
   have Heq:=jX heq
   have HKr:=jX hkeep
   clear heq hkeep
   by_cases hlt:k<l.length
   ·have hlt2:k<m.length:=by rw [← Hlen.out];exact hlt
    obtain⟨g,o,rfl,hg,hat⟩:=IvR.elem (HR.out.later HKr.out) k hlt
    obtain⟨g2,o2,rfl,hg2,hat2⟩:=IvR.elem (HS.out.later HKr.out) k hlt2
    obtain⟨i,hi⟩:∃ i,l[k]=i:=⟨_,rfl⟩
    obtain⟨j,hj⟩:∃ j,m[k]=j:=⟨_,rfl⟩
    have Hi:=jX hi
    have Hj:=jX hj
    rw [hi] at hat
    rw [hj] at hat2
    clear hi hj
    obtain⟨p,hp⟩:∃ p,o+k*20=p:=⟨_,rfl⟩
    obtain⟨q,hq⟩:∃ q,o2+k*20=q:=⟨_,rfl⟩
    rw [hp] at hat
    rw [hq] at hat2
    have HLa:=jX (hat.ld hg)
    have HLb:=jX (hat2.ld hg2)
    have HN:=jX (neqI_run i j)
    clear hat hat2
    unfold iv at *
    generalize iC i=I at *
    generalize iC j=J at *
    by_cases hij:i=j
    ·rw [decide_eq_true hij] at HN
     have Hij:=jX hij
     clear hij
     go_wp2_with fail
     refine wp_region_keep (by kernel_rfl) (by kernel_rfl) ?_
     repeat (first
      | go_big_quiet_skip
      | (go_big_quiet_want;first
       | (refine quiet_load _ _ _ (.agg I) rfl rfl (by rintro _ ⟨m,rfl⟩;exact HLa.out m) ?_;go_simp;go_big_quiet_on)|(refine quiet_load _ _ _ (.agg J) rfl rfl (by rintro _ ⟨m,rfl⟩;exact HLb.out m) ?_;go_simp;go_big_quiet_on)|(refine quiet_bin _ _ _ _ _ _ _ (_) rfl rfl rfl eqI_g (by intro w;exact HN.out w) ?_;go_simp;go_big_quiet_on)
       | (go_big_quiet_op;first|go_big_quiet_on|go_big_quiet_call (first
        | fail))))
     refine wpQuiet_nil ?_
     rintro w1 ⟨⟨_,hk_w1⟩,rfl⟩
     clear HLa HLb HN
     have Hk1:=jX hk_w1
     clear hk_w1
     go_wp2_with fail
     go_roundw
     case rel=>exact ⟨k+1,by omega,congrArg (Value.int .i64) (by omega),by rw [List.take_succ_eq_append_getElem hlt,List.take_succ_eq_append_getElem hlt2,Heq.out,Hi.out,Hj.out,Hij.out],HKr.out.trans0 Hk1.out⟩
     case measure=>simp [intOf];omega
    ·rw [decide_eq_false hij] at HN
     have Hij:=jX hij
     clear hij
     go_wp2_with fail
     refine wp_region_keep (by kernel_rfl) (by kernel_rfl) ?_
     repeat (first
      | go_big_quiet_skip
      | (go_big_quiet_want;first
       | (refine quiet_load _ _ _ (.agg I) rfl rfl (by rintro _ ⟨m,rfl⟩;exact HLa.out m) ?_;go_simp;go_big_quiet_on)|(refine quiet_load _ _ _ (.agg J) rfl rfl (by rintro _ ⟨m,rfl⟩;exact HLb.out m) ?_;go_simp;go_big_quiet_on)|(refine quiet_bin _ _ _ _ _ _ _ (_) rfl rfl rfl eqI_g (by intro w;exact HN.out w) ?_;go_simp;go_big_quiet_on)
       | (go_big_quiet_op;first|go_big_quiet_on|go_big_quiet_call (first
        | fail))))
     refine wpQuiet_nil ?_
     rintro w1 ⟨⟨_,hk_w1⟩,rfl⟩
     clear HLa HLb HN
     have Hk1:=jX hk_w1
     clear hk_w1
     go_wp2_with fail
     go_ret
     have hno:l≠m:=fun e=>Hij.out (by rw [← Hi.out,← Hj.out];simp only [e])
     exact ⟨by rw [decide_eq_false hno];rfl,HKr.out.trans0 Hk1.out⟩
   ·obtain rfl:k=l.length:=by omega
    go_wp2_with fail
    go_ret
    have he:l=m:=by
     have:=Heq.out
     rw [List.take_length,Hlen.out,List.take_length] at this
     exact this
    exact ⟨by rw [decide_eq_true he];rfl,HKr.out⟩
 ·have hne:((l.length:Int) != (m.length:Int))=true:=by rw [bne_iff_ne];omega
  have hno:l≠m:=fun e=>hlen (by rw [e])
  rw [decide_eq_false hno]
  clear hno hlen
  go_enter Tryz.func21,Tryz.ntmps21
  go_wp2_with fail
  go_ret
  exact ⟨rfl,Keep.refl _ _⟩
structure RawR where
 a1:Bool
 a2:ByteArray
 a3:Bool
 a4:ByteArray
 b1:Bool
 b2:ByteArray
 b3:Bool
 b4:ByteArray
 n:Bool
def RawR.cells (x:RawR):List Value:=[.bool x.a1,.string x.a2,.bool x.a3,.string x.a4,.bool x.b1,.string x.b2,.bool x.b3,.string x.b4,.bool x.n]
def RawR.v (x:RawR):Value:=.agg #[.bool x.a1,.string x.a2,.bool x.a3,.string x.a4,.bool x.b1,.string x.b2,.bool x.b3,.string x.b4,.bool x.n]
def RawR.of (x:Qn):RawR:=⟨sgB x.p.num,mgS x.p.num,false,dnS x.p.den,sgB x.r.num,mgS x.r.num,false,dnS x.r.den,x.neg⟩
theorem MI.get {w0 w:World} {L:List (Value × List (Iv K))} (h:MI w0 w L) (v:Value) (l:List (Iv K)) (hm:(v,l)∈L):IvR w v l:=h.2 (v,l) hm
theorem equal_t {l m:List (Iv K)} (he:l=m) (w:World) (sv tv:Value) (hr:IvR w sv l) (hs:IvR w tv m) (h9:l.length≤1000000000) :
  Calls Tryz.prog 21 #[sv,tv] w fun e w'=>e = .returned (.bool true)∧Keep [] w w':=by
 have:=equal_c l m w sv tv hr hs h9 (by rw [← he];exact h9)
 rw [decide_eq_true he] at this
 exact this
section
variable {S:List K} {w0 w w':World} {L:List (Value × List (Iv K))}
variable {v u:Value} {a b:List (Iv K)}
theorem MP.eq (h:MP S w0 w L) (hv:(v,a)∈L) (hu:(u,b)∈L) (he:a=b):Calls Tryz.prog 21 #[v,u] w (BoolPost S w0 L true) :=
 boolPost_of h (equal_t he w v u (h.get hv) (h.get hu) (by have:=h.len hv;omega))
end
end Go.Proofs.YtejegogbhpmgfaaGreatDoor
namespace Go.Proofs.YtejegogbhpmgfaaGreatDoor
open Go.RowKit
open Go.ChangeShapes Go.WideShapes Go.ChangeAt
def InsArg (_:World) (v:Value):Prop:=∃ a:InsA,v=a.v
theorem InsArg_open {H:Type} {enc:TypeId × Value→H} {W:World} {v:Value} {base:Nat} {d:DataW H} {p:List MemPlace} (hv:Value.okWide Tryz.prog W .any base 26 v)
  (h:∃ m,DataW.trod enc Tryz.prog W 0 (fun _=>true) true m 26 v.cells.toList=some (d,p)):InsArg W v:=by
 obtain⟨m,hm⟩:=h
 obtain⟨a,ha⟩:=ins_trod hm
 exact ⟨a,agg_of_cells ha (by simp)⟩
end Go.Proofs.YtejegogbhpmgfaaGreatDoor
namespace Go.Proofs.YtejegogbhpmgfaaGreatDoor
open Go.RowKit
def MQ (W u:World) (l:List (Value × List (Iv K))) (bs:List (Nat × Obj)):Prop:=Keep [] W u∧(∀ p∈l,IvR u p.1 p.2)∧∀ b∈bs,u.heap[b.1]? = some b.2∧W.heap.size≤b.1
theorem MQ.start {W u:World} (h:Keep [] W u):MQ W u [] []:=⟨h,by simp,by simp⟩
theorem MQ.move {W u u':World} {l:List (Value × List (Iv K))} {bs:List (Nat × Obj)} (h:MQ W u l bs) (hk:Keep [] u u'):MQ W u' l bs :=
 ⟨h.1.trans0 hk,fun p hp=>(h.2.1 p hp).later hk,fun b hb=>⟨hk.heap (h.2.2 b hb).1 (by simp),(h.2.2 b hb).2⟩⟩
theorem MQ.add {W u u':World} {l:List (Value × List (Iv K))} {bs:List (Nat × Obj)} (h:MQ W u l bs) (hk:Keep [] u u') {v:Value} {m:List (Iv K)} (hv:IvR u' v m):MQ W u' ((v,m) :: l) bs:=by
 obtain⟨a1,a2,a3⟩:=h.move hk
 refine ⟨a1,fun p hp=>?_,a3⟩
 rcases List.mem_cons.1 hp with rfl|hp
 ·exact hv
 ·exact a2 p hp
theorem MQ.new' {W u:World} {l:List (Value × List (Iv K))} {bs:List (Nat × Obj)} (h:MQ W u l bs) (z:Obj):∃ u' g,u.alloc z=u'∧u.heap.size=g∧MQ W u' l ((g,z) :: bs):=by
 have hk:=Keep.alloc [] u z
 obtain⟨a1,a2,a3⟩:=h.move hk
 refine ⟨_,_,rfl,rfl,a1,a2,fun b hb=>?_⟩
 rcases List.mem_cons.1 hb with rfl|hb
 ·exact ⟨World.alloc_heap_new u z,h.1.size⟩
 ·exact a3 b hb
theorem MQ.put {W u u':World} {l:List (Value × List (Iv K))} {g:Nat} {cs:Array Value} {t:TypeId} {o:Obj} (h:MQ W u l [(g,.cells cs t)]) (hs:cs.size<20) (hb:u'.heap[g]? = some o) (hk:Keep [g] u u'):MQ W u' l [(g,o)]:=by
 obtain⟨a1,a2,a3⟩:=h
 have hg:=a3 (g,.cells cs t) (by simp)
 refine ⟨a1.trans hk (by simp;exact hg.2),fun p hp=>(a2 p hp).laterBox hg.1 hs hk,fun b hb'=>?_⟩
 simp at hb'
 subst hb'
 exact ⟨hb,hg.2⟩
theorem MQ.get {W u:World} {l:List (Value × List (Iv K))} {bs:List (Nat × Obj)} (h:MQ W u l bs) (v:Value) (m:List (Iv K)) (hm:(v,m)∈l):IvR u v m:=h.2.1 (v,m) hm
end Go.Proofs.YtejegogbhpmgfaaGreatDoor
namespace Go.Proofs.YtejegogbhpmgfaaGreatDoor
open Go.RowKit
open Classical
theorem flat_mid (a b:List (Iv K)) (s t:Iv K) (hf:t.f.beh=s.f.beh) (hl:t.l.beh=s.l.beh):setL (setL ((a++s :: b).flatMap fun i=>icells i) (a.length*20) (kcells t.f.pt.1)) (a.length*20+9) (kcells t.l.pt.1)=(a++t :: b).flatMap fun i=>icells i:=by
 have ha:(a.flatMap fun i=>icells i).length=a.length*20:=flat_len (fun i:Iv K=>icells i) icells_len a
 rw [List.flatMap_append,List.flatMap_append,List.flatMap_cons,List.flatMap_cons]
 generalize (a.flatMap fun i=>icells i)=F at *
 generalize (b.flatMap fun i=>icells i)=G at *
 have step:∀ (G vs:List Value) (j:Nat),setL (F++G) (F.length+j) vs=F++setL G j vs:=fun G vs j=>by
  unfold setL
  rw [List.take_length_add_append,Nat.add_assoc,List.drop_length_add_append,List.append_assoc,List.append_assoc,List.append_assoc]
 rw [← ha]
 have e0:setL (F++(icells s++G)) F.length (kcells t.f.pt.1)=F++setL (icells s++G) 0 (kcells t.f.pt.1):=step _ _ 0
 rw [e0,step]
 congr 1
 unfold icells
 rw [hf,hl]
 rfl
theorem OI_.setm {w0 w:World} {g n c:Nat} {a b:List (Iv K)} {s t:Iv K} (hf:t.f.beh=s.f.beh) (hl:t.l.beh=s.l.beh) (h:OI_ w0 w (.slice (some ⟨g,0,none⟩) n c) (a++s :: b)) :
  OI_ w0 ((w.setCells g (a.length*20) (kcells t.f.pt.1)).setCells g (a.length*20+9) (kcells t.l.pt.1)) (.slice (some ⟨g,0,none⟩) n c) (a++t :: b):=by
 have hr:=h.row
 have hlen:(a++s :: b).length=(a++t :: b).length:=by simp
 have hbig:a.length+1≤(a++s :: b).length:=by simp
 have hn:n=(a++s :: b).length:=by
  obtain⟨po,pc,e⟩:=h.form
  injection e
 subst hn
 rw [hlen] at *
 obtain⟨h1,k1⟩:=own_setCells hr (o:=a.length*20) (vs:=kcells t.f.pt.1) (by rw [kcells_len];omega)
 obtain⟨h2,k2⟩:=own_setCells h1 (o:=a.length*20+9) (vs:=kcells t.l.pt.1) (by rw [kcells_len];omega)
 rw [flat_mid a b s t hf hl] at h2
 have hg:=h.base g rfl
 exact ⟨h2,h.base,(h.keep.trans k1 (by simp;exact hg)).trans k2 (by simp;exact hg)⟩
section
variable {S:List K} {w0 w w' W:World} {L M:List (Value × List (Iv K))}
theorem MP.sub (h:MP S w0 w L) (hs:∀ p∈M,p∈L):MP S w0 w M:=⟨⟨h.mi.1,fun p hp=>h.mi.2 p (hs p hp)⟩,fun p hp=>h.per p (hs p hp),h.few⟩
variable {v u:Value} {a b:List (Iv K)}
end
section
variable {S:List K} {w0 w:World} {L:List (Value × List (Iv K))} {D T E U P:List (Iv K)} {da ta ea ua pa:Option Addr} {dc tc ec uc pc:Nat}
theorem MP.mfalse (h:MP S w0 w L) (hD:(.slice da D.length dc,D)∈L) (hT:(.slice ta T.length tc,T)∈L) :
  Calls Tryz.prog 19 #[.agg #[.slice da D.length dc,.slice ta T.length tc]] w (PerPost S w0 L (combK 3 D T)):=by
 have H0:=jX h
 have hD:=jX hD
 have hT:=jX hT
 clear h
 go_enter Tryz.func19,Tryz.ntmps19
 go_upto_region 1 with (fail)
 obtain⟨W,ga,hW,ega,bga,hga,hgW,hkW⟩:=al1 w (.cells #[.slice da D.length dc,.slice ta T.length tc] 29)
 rw [← hW]
 try rw [ega]
 have Bga:=jX bga
 have HkW:=jX hkW
 clear hW hkW ega bga
 have HM:=jX (H0.out.here.move HkW.out).here
 have pga:=cell_of Bga.out
 go_wp2_with fail
 refine (HM.out.minus (v:=.slice da D.length dc) (a:=D) (u:=.slice ta T.length tc) (b:=T) (by simp [hD.out,hT.out]) (by simp [hD.out,hT.out])).mono ?_
 rintro e w1 ⟨vo_w1,vc_w1,rfl,hm_w1⟩
 dsimp only
 have HM:=jX hm_w1
 clear hm_w1
 go_wp2_with fail
 go_ret
 exact ⟨_,_,rfl,⟨⟨H0.out.keep.trans0 (HkW.out.trans0 HM.out.keep),HM.out.mi.2⟩,HM.out.per,HM.out.few⟩⟩
end
section
variable {S:List K} {w0 w:World} {L:List (Value × List (Iv K))} {D T E U P:List (Iv K)} {da ta ea ua pa:Option Addr} {dc tc ec uc pc:Nat}
theorem MP.rfalse (h:MP S w0 w L) (hD:(.slice da D.length dc,D)∈L) (hT:(.slice ta T.length tc,T)∈L) :
  Calls Tryz.prog 22 #[.agg #[.slice da D.length dc,.slice ta T.length tc]] w (PerPost S w0 L (combK 3 D T)):=by
 have H0:=jX h
 have hD:=jX hD
 have hT:=jX hT
 clear h
 go_enter Tryz.func22,Tryz.ntmps22
 go_upto_region 1 with (fail)
 obtain⟨W,ga,hW,ega,bga,hga,hgW,hkW⟩:=al1 w (.cells #[.slice da D.length dc,.slice ta T.length tc] 29)
 rw [← hW]
 try rw [ega]
 have Bga:=jX bga
 have HkW:=jX hkW
 clear hW hkW ega bga
 have HM:=jX (H0.out.here.move HkW.out).here
 have pga:=cell_of (HM.out.keep.heap Bga.out (by simp))
 go_wp2_with fail
 refine (HM.out.comb (op:=3) (by simp) (v:=.slice da D.length dc) (a:=D) (u:=.slice ta T.length tc) (b:=T) (by simp [hD.out,hT.out]) (by simp [hD.out,hT.out])).mono ?_
 rintro e w1 ⟨vo_w1,vc_w1,rfl,hm_w1⟩
 dsimp only
 have HM:=jX hm_w1
 clear hm_w1
 clear pga
 go_wp2_with fail
 go_ret
 exact ⟨_,_,rfl,⟨⟨H0.out.keep.trans0 (HkW.out.trans0 HM.out.keep),HM.out.mi.2⟩,HM.out.per,HM.out.few⟩⟩
end
section
variable {S:List K} {w0 w w' W:World} {L M:List (Value × List (Iv K))} {D T E U P:List (Iv K)} {da ta ea ua pa:Option Addr} {dc tc ec uc pc:Nat}
theorem MP.rat (h:MP S w0 w L) (hD:(.slice da D.length dc,D)∈L) (hT:(.slice ta T.length tc,T)∈L) (t:K) :
  Calls Tryz.prog 18 #[.agg #[.slice da D.length dc,.slice ta T.length tc],kv t] w (BB2Post S w0 L (holds T t) (holds D t)):=by
 have H0:=jX h
 have hD:=jX hD
 have hT:=jX hT
 clear h
 generalize hr1:holds T t=r1
 generalize hr2:holds D t=r2
 have Hr1:=jX hr1
 have Hr2:=jX hr2
 clear hr1 hr2
 show Calls Tryz.prog _ #[_,.agg (kC t)] w _
 go_enter Tryz.func18,Tryz.ntmps18
 go_upto_region 1 with (fail)
 obtain⟨W,ga,gb,hW,ega,egb,bga,bgb,hga,hgb,hgW,hkW⟩:=al2 w (.cells #[.slice da D.length dc,.slice ta T.length tc] 29) (.cells (kC t) 36)
 rw [← hW]
 try rw [egb]
 try rw [ega]
 have Bga:=jX bga
 have Bgb:=jX bgb
 have HkW:=jX hkW
 clear hW hkW ega egb bga bgb
 have HM:=jX (H0.out.here.move HkW.out).here
 refine wp_region_heldT (S:=fun u=>Keep [] W u) 8 (by kernel_rfl) (by kernel_rfl) (fun _ _ d _ _ h=>by cases d<;>exact h) ?_
 have HM:=jX (HM.out.move (Keep.drew [] W))
 generalize World.drew W=u at *
 have hS0:=HM.out.keep
 refine' jV (v:=_) 0 hS0 (fun w hw=>?hrunf0) (fun K hK=>?hnextf0)
 case hrunf0=>(have pga:=cell_of (hw.heap Bga.out (by simp));go_simp;try rfl)
 go_simp
 refine hK _ ?_
 clear hK K
 refine' jV (v:=_) 1 hS0 (fun w hw=>?hrunf1) (fun K hK=>?hnextf1)
 case hrunf1=>(have pga:=cell_of (hw.heap Bga.out (by simp));go_simp;try rfl)
 go_simp
 refine hK _ ?_
 clear hK K
 refine jV (v:=.agg (kC t)) 2 hS0 (fun w hw=>exec_load _ _ ⟨gb,0,none⟩ _ rfl rfl (kw_k Bgb.out ⟨w,hw⟩)) (fun K hK=>?_)
 go_simp
 refine hK _ ?_
 clear hK K
 refine' jV (v:=_) 4 hS0 (fun w hw=>?hrunf4) (fun K hK=>?hnextf4)
 case hrunf4=>(have pga:=cell_of (hw.heap Bga.out (by simp));go_simp;try rfl)
 go_simp
 refine hK _ ?_
 clear hK K
 refine' jV (v:=_) 5 hS0 (fun w hw=>?hrunf5) (fun K hK=>?hnextf5)
 case hrunf5=>(have pga:=cell_of (hw.heap Bga.out (by simp));go_simp;try rfl)
 go_simp
 refine hK _ ?_
 clear hK K
 refine jV (v:=.agg (kC t)) 6 hS0 (fun w hw=>exec_load _ _ ⟨gb,0,none⟩ _ rfl rfl (kw_k Bgb.out ⟨w,hw⟩)) (fun K hK=>?_)
 go_simp
 refine hK _ ?_
 clear hK K
 refine jO 3 (fun K hK=>?_)
 refine wp_enter 23 #[.slice ta T.length tc,.agg (kC t)] (by go_simp) ?_
 refine (Hr1.out ▸ HM.out.hold (v:=.slice ta T.length tc) (a:=T) (by simp [hD.out,hT.out]) t).mono ?_
 rintro e w1 ⟨rfl,hm_w1⟩
 have HM:=jX hm_w1
 clear hm_w1
 refine ⟨_,rfl,?_⟩
 have hS0:=HM.out.keep
 go_simp
 refine hK _ _ hS0 ?_
 clear hK K
 refine jO 7 (fun K hK=>?_)
 refine wp_enter 23 #[.slice da D.length dc,.agg (kC t)] (by go_simp) ?_
 refine (Hr2.out ▸ HM.out.hold (v:=.slice da D.length dc) (a:=D) (by simp [hD.out,hT.out]) t).mono ?_
 rintro e w2 ⟨rfl,hm_w2⟩
 have HM:=jX hm_w2
 clear hm_w2
 refine ⟨_,rfl,?_⟩
 have hS0:=HM.out.keep
 go_simp
 refine hK _ _ hS0 ?_
 clear hK K
 refine ⟨by kernel_rfl,?_⟩
 simp only [List.drop_succ_cons,List.drop_zero]
 go_wp2_with fail
 refine bodyPost_ret (results_tmp2 rfl _ _ _) rfl ⟨rfl,H0.out.back HkW.out HM.out (fun p hp=>by simp [hp])⟩
end
section
variable {S:List K} {w0 w w' W V:World} {L M:List (Value × List (Iv K))}
end
theorem lreal_c (a:InsA) (w:World):Calls Tryz.prog 16 #[a.v] w fun e w'=>e = .returned (kv a.k)∧Keep [] w w':=by
 have HI:=jX (instant_c a)
 have hv:a.v = .agg #[.int .u8 a.P,.int .u8 a.D,.int .u8 a.R,.int .u8 a.E,.bool a.neg]:=rfl
 rw [hv] at HI ⊢
 generalize (a.P:Int)=P1 at *
 generalize (a.D:Int)=P2 at *
 generalize (a.R:Int)=P3 at *
 generalize (a.E:Int)=P4 at *
 generalize a.neg=P5 at *
 generalize a.k=t at *
 go_enter Tryz.func16,Tryz.ntmps16
 go_upto_region 1 with (fail)
 obtain⟨W,ga,gb,hW,ega,egb,bga,bgb,hga,hgb,hgW,hkW⟩:=al2 w (.cells #[.int .u8 P1,.int .u8 P2,.int .u8 P3,.int .u8 P4,.bool P5] 26) (.cells #[.bool false,.string ⟨#[]⟩,.bool false,.string ⟨#[]⟩,.bool false,.string ⟨#[]⟩,.bool false,.string ⟨#[]⟩,.bool false] 36)
 rw [← hW]
 try rw [egb]
 try rw [ega]
 have Bga:=jX bga
 have Bgb:=jX bgb
 have HkW:=jX hkW
 clear hW hkW ega egb bga bgb
 have pga:=cell_of Bga.out
 refine wp_region_lit ?_
 refine' wpList_R (v:=_) (by rfl) (?hruna) (fun K hK=>?hnexta)
 case hruna=>(go_simp;try rfl)
 go_simp
 refine hK _ _ ?_
 clear hK K
 refine wpList_plain (by rfl) (fun K hK=>?_)
 refine wp_enter 64 #[.agg #[.int .u8 P1,.int .u8 P2,.int .u8 P3,.int .u8 P4,.bool P5]] (by go_simp) ?_
 refine (HI.out _).mono ?_
 rintro e w2 ⟨rfl,hk2⟩
 refine ⟨_,rfl,?_⟩
 go_simp
 refine hK _ _ ?_
 clear hK K pga
 have Bz:=jX (hk2.heap Bgb.out (by simp))
 refine wpList_rowK (by rfl) _ _ _ rfl gb (kC t) rfl rfl _ _ Bz.out (by exact k_size) (by rfl) (all_oneCell_toArray (kcells_one t.1)) (fun K hK=>?_)
 obtain⟨w4,e4,b4,k4⟩:=setRow_at (cs:=kC t) Bz.out
 rw [e4]
 go_simp
 refine hK _ _ ?_
 clear hK K e4
 have HL:=jX (load_real w4 gb 0 t.1 (kAt_box b4))
 have HkZ:=jX ((HkW.out.trans0 hk2).trans k4 (by simp;omega))
 clear b4 k4
 go_wp2_with fail
 refine bodyPost_ret (v:=kv t) ?_ rfl ⟨rfl,HkZ.out⟩
 rw [results_cell1 rfl]
 change ((loadVar 36 ⟨gb,0,none⟩).run Tryz.prog w4)=_
 rw [HL.out]
 rfl
structure InsC (v:Value) (k:K):Prop where
 form:∃ p1 p2 p3 p4 b,v = .agg #[.int .u8 p1,.int .u8 p2,.int .u8 p3,.int .u8 p4,.bool b]
 call:∀ u,Calls Tryz.prog 16 #[v] u fun e w'=>e = .returned (.agg (kC k))∧Keep [] u w'
theorem insC_of {w:World} {v:Value} (h:InsArg w v):∃ k,InsC v k:=by
 obtain⟨a,rfl⟩:=h
 exact ⟨a.k,⟨_,_,_,_,_,rfl⟩,fun u=>lreal_c a u⟩
theorem holds_comb (op:Int) (a b:List (Iv K)) (t:K):holds (combK op a b) t=decV op (holds a t) (holds b t):=by rw [holds_has,holds_has,holds_has,combK_has]
theorem holds_sub {T D:List (Iv K)} (h:SubL T D) (t:K):holds T t=true→holds D t=true:=by rw [holds_has,holds_has];exact h _
section
variable {P:Program} {ops:Array Oper} {md:Region.Mode} {S:World→Prop} {Q:Exit→Act→World→Prop}
end
section
variable {S:List K} {w0 w w' W:World} {L M:List (Value × List (Iv K))} {D T E U P:List (Iv K)} {da ta ea ua pa:Option Addr} {dc tc ec uc pc:Nat}
theorem MP.matT (h:MP S w0 w L) (hD:(.slice da D.length dc,D)∈L) (hT:(.slice ta T.length tc,T)∈L) {t:K} {q r:Bool} (hq:holds T t=q) (hr:holds D t=r) :
  Calls Tryz.prog 17 #[.agg #[.slice da D.length dc,.slice ta T.length tc],.agg (kC t)] w (BB2Post S w0 L q r):=by
 subst hq hr
 exact h.mat hD hT t
theorem MP.ratT (h:MP S w0 w L) (hD:(.slice da D.length dc,D)∈L) (hT:(.slice ta T.length tc,T)∈L) {t:K} {q r:Bool} (hq:holds T t=q) (hr:holds D t=r) :
  Calls Tryz.prog 18 #[.agg #[.slice da D.length dc,.slice ta T.length tc],.agg (kC t)] w (BB2Post S w0 L q r):=by
 subst hq hr
 exact h.rat hD hT t
end
end Go.Proofs.YtejegogbhpmgfaaGreatDoor
namespace Go.Proofs.YtejegogbhpmgfaaGreatDoor
open Go.RowKit
section
variable {P:Program} {ops:Array Oper} {Q:Exit→Act→World→Prop} {rest:List Oper} {o:Oper} {a:Act} {w:World}
theorem gWC (hw:Region.wanted o (yielded ops a.tmps)=true)
  (h:∀ K:Act→World→Prop,(∀ a w,wpList P ops Q rest a w→K a w)→o.wp P a w K Q):wpList P ops Q (o :: rest) a w:=by
 unfold wpList
 rw [if_pos hw]
 exact .inl (h _ fun _ _ h=>h)
theorem gWE (hw:Region.wanted o (yielded ops a.tmps)=true)
  (h:∃ v,(execOp a.eval o).run P w = .ok (.value v) w∧∀ K:Act→World→Prop,(∀ a w,wpList P ops Q rest a w→K a w)→K (a.put o.dst v) w):wpList P ops Q (o :: rest) a w:=by
 obtain⟨v,h1,h2⟩:=h
 exact gWC hw fun K hK=>wp_op v w h1 (h2 K hK)
theorem gWS (hw:Region.wanted o (yielded ops a.tmps)=false)
  (h:∀ K:Act→World→Prop,(∀ a w,wpList P ops Q rest a w→K a w)→K (a.put o.dst undef) w):wpList P ops Q (o :: rest) a w:=by
 unfold wpList
 rw [hw]
 exact h _ fun _ _ h=>h
end
end Go.Proofs.YtejegogbhpmgfaaGreatDoor
namespace Go.Proofs.YtejegogbhpmgfaaGreatDoor
open Go.RowKit
open Classical
section
variable {S:List K} {w0 w w' W:World} {L M:List (Value × List (Iv K))} {D T:List (Iv K)} {v:Value} {l:List (Iv K)} {da ta:Option Addr} {dc tc:Nat}
theorem MP.holdT (h:MP S w0 w L) (hv:(v,l)∈L) {t:K} {q:Bool} (hq:holds l t=q):Calls Tryz.prog 23 #[v,.agg (kC t)] w (BoolPost S w0 L q):=by
 have:=h.hold hv t
 rw [hq] at this
 exact this
variable {E U:List (Iv K)} {ea ua:Option Addr} {ec uc:Nat}
variable (h:MP S w0 w L) (hD:(.slice da D.length dc,D)∈L) (hT:(.slice ta T.length tc,T)∈L)
include h hD hT
end
section
variable {S:List K} {w0 w:World} {L:List (Value × List (Iv K))} {D T:List (Iv K)} {da ta:Option Addr} {dc tc:Nat}
end
theorem movingboolValues_c (w:World) (v0 v1:Value) (m0:MovArg w v0) (m1:InsArg w v1):Calls Tryz.prog 3 #[v0,v1] w fun e w'=>e = .returned (.bool true)∧Keep [] w w':=by
 obtain⟨l0,q0,D0,T0,c0⟩:=movC_of m0
 obtain⟨k1,C1⟩:=insC_of m1
 have hS:(l0).length≤1000:=by omega
 have C0:=c0 (l0) (by simp +contextual)
 generalize l0=S at *
 obtain⟨ao0,an0,ac0,bo0,bn0,bc0,rfl⟩:=C0.form
 have nD0:=C0.nD
 have nT0:=C0.nT
 have sT0:=C0.sub
 obtain⟨x1,x2,x3,x4,x5,rfl⟩:=C1.form
 have HC0:=jX C0
 have HC1:=jX C1
 clear m1 C1
 clear m0 q0 c0 C0 l0
 have h0:=holds_sub sT0 k1
 obtain⟨q0,e0⟩:∃ q,holds T0 k1=q:=⟨_,rfl⟩
 obtain⟨r0,e1⟩:∃ q,holds D0 k1=q:=⟨_,rfl⟩
 rw [e0,e1] at h0
 have hf:holds (combK 3 D0 T0) k1=(r0 && !q0):=by simp only [holds_comb,e0,e1];rfl
 have Xe0:=jX e0
 have Xe1:=jX e1
 have Xh0:=jX h0
 have Xhf:=jX hf
 clear e0 e1 h0 hf
 go_enter Tryz.func3,Tryz.ntmps3
 go_upto_region 1 with (fail)
 obtain⟨W,ga,gb,hW,ega,egb,bga,bgb,hga,hgb,hgW,hkW⟩:=al2 w (.cells #[.slice ao0 an0 ac0,.slice bo0 bn0 bc0] 24) (.cells #[.int .u8 x1,.int .u8 x2,.int .u8 x3,.int .u8 x4,.bool x5] 26)
 rw [← hW]
 try rw [egb]
 try rw [ega]
 have Bga:=jX bga
 have Bgb:=jX bgb
 have HkW:=jX hkW
 clear hW hkW ega egb bga bgb
 have HM:=jX (MP.start hS W)
 have HK:=jX HkW.out
 clear hS HkW
 refine wp_region_heldN (S:=fun u=>Keep [] W u) 6 [(5,29),(6,36)] (fun t=>if t=29 then .cells #[.slice none 0 0,.slice none 0 0] 29 else .cells #[.bool false,.string ⟨#[]⟩,.bool false,.string ⟨#[]⟩,.bool false,.string ⟨#[]⟩,.bool false,.string ⟨#[]⟩,.bool false] 36) (by kernel_rfl) (by kernel_rfl) (by kernel_rfl) (fun t ht ev w o ho=>(by simp at ht;rcases ht with rfl|rfl<;>first|(rw [if_pos rfl];exact al_bool ev w o ho)|(rw [if_neg (by decide)];exact al_real ev w o ho))) (fun _ _ d _ _ h=>by cases d<;>exact h) (fun _ _ d _ _ h=>by cases d<;>exact h) (fun _ _ h k=>h.trans0 k) ?_
 simp only [List.map_cons,List.map_nil,unal,isAl,if_true,if_false,Bool.false_eq_true]
 have hS0:=Keep.drew [] W
 have HM:=jX (HM.out.move hS0).here
 generalize World.drew W=u at *
 refine' jN (v:=_) 0 hS0 (fun _ _ h k=>h.trans0 k) (fun w hw=>?hrunr10) (fun K hK=>?hnextr10)
 case hrunr10=>(have pga:=cell_of (hw.heap Bga.out (by simp));go_simp;try rfl)
 go_simp
 refine hK _ ?_
 clear hK K
 refine' jN (v:=_) 2 hS0 (fun _ _ h k=>h.trans0 k) (fun w hw=>?hrunr12) (fun K hK=>?hnextr12)
 case hrunr12=>(have pgb:=cell_of (hw.heap Bgb.out (by simp));go_simp;try rfl)
 go_simp
 refine hK _ ?_
 clear hK K
 refine' jN (v:=_) 4 hS0 (fun _ _ h k=>h.trans0 k) (fun w hw=>?hrunr14) (fun K hK=>?hnextr14)
 case hrunr14=>(skip;go_simp;try rfl)
 go_simp
 refine hK _ ?_
 clear hK K
 refine' jN (v:=_) 5 hS0 (fun _ _ h k=>h.trans0 k) (fun w hw=>?hrunr15) (fun K hK=>?hnextr15)
 case hrunr15=>(skip;go_simp;try rfl)
 go_simp
 refine hK _ ?_
 clear hK K
 refine jM 1 (fun u hu K hK=>?_)
 have HM:=jX (HM.out.move hu).here
 have hS0:=hS0.trans0 hu
 clear hu
 refine wp_enter 15 #[.agg #[.slice ao0 an0 ac0,.slice bo0 bn0 bc0]] (by go_simp) ?_
 refine (HC0.out.call _ _ _ (HK.out.trans0 hS0) HM.out).mono ?_
 rintro e w1 ⟨da_w1,dc_w1,ta_w1,tc_w1,rfl,hm_w1⟩
 have hk:=hm_w1.keep
 have HM:=jX hm_w1.here
 clear hm_w1
 have hS0:=hS0.trans0 hk
 refine ⟨_,rfl,?_⟩
 go_simp
 refine hK _ _ hS0 hk ?_
 clear hK K hk
 refine jM 3 (fun u hu K hK=>?_)
 have HM:=jX (HM.out.move hu).here
 have hS0:=hS0.trans0 hu
 clear hu
 refine wp_enter 16 #[.agg #[.int .u8 x1,.int .u8 x2,.int .u8 x3,.int .u8 x4,.bool x5]] (by go_simp) ?_
 refine (HC1.out.call _).mono ?_
 rintro e w2 ⟨rfl,hk⟩
 have HM:=jX (HM.out.move hk).here
 have hS0:=hS0.trans0 hk
 refine ⟨_,rfl,?_⟩
 go_simp
 refine hK _ _ hS0 hk ?_
 clear hK K hk
 intro w3 hu
 have HM:=jX (HM.out.move hu).here
 have hS0:=hS0.trans0 hu
 clear hu
 refine ⟨by kernel_rfl,fun p hp1 hp2 _ hz=>?_⟩
 simp only [List.map_cons,List.map_nil,pl,List.drop_succ_cons,List.drop_zero]
 have b5:=hz (5,29) (by simp)
 have h5:=hp1 5 (by simp)
 have b6:=hz (6,36) (by simp)
 have h6:=hp1 6 (by simp)
 have n5_6:p 5≠p 6:=fun h=>absurd (hp2 5 (by simp) 6 (by simp) h) (by decide)
 dsimp only at b5 b6
 rw [if_pos rfl] at b5
 rw [if_neg (by decide)] at b6
 generalize p 5=g5 at *
 generalize p 6=g6 at *
 clear hz hp1 hp2 p
 have HM:=jX (HM.out.re hS0)
 clear hS0
 go_simp
 refine wpList_rowK (by rfl) _ _ _ rfl g5 (#[.slice da_w1 D0.length dc_w1,.slice ta_w1 T0.length tc_w1]) rfl rfl _ _ b5 (by exact b_size) (by rfl) (b_one _ _ _ _ _ _) (fun K hK=>?_)
 have o5:=b5
 clear b5
 obtain⟨w4,e5,b5,k5⟩:=setRow_at (cs:=#[.slice da_w1 D0.length dc_w1,.slice ta_w1 T0.length tc_w1]) o5
 rw [e5]
 go_simp
 refine hK _ _ ?_
 clear hK K e5
 have b6:=k5.heap b6 (by simp [n5_6,n5_6.symm])
 have HM:=jX (HM.out.put o5 (by simp) k5 h5)
 clear k5 o5
 refine wpList_rowK (by rfl) _ _ _ rfl g6 ((kC k1)) rfl rfl _ _ b6 (by exact k_size) (by rfl) (all_oneCell_toArray (kcells_one k1.1)) (fun K hK=>?_)
 have o6:=b6
 clear b6
 obtain⟨w5,e6,b6,k6⟩:=setRow_at (cs:=(kC k1)) o6
 rw [e6]
 go_simp
 refine hK _ _ ?_
 clear hK K e6
 have b5:=k6.heap b5 (by simp [n5_6,n5_6.symm])
 have HM:=jX (HM.out.put o6 (by simp) k6 h6)
 clear k6 o6
 have hk:=HM.out.keep
 have HM:=jX HM.out.here
 have HK:=jX (HK.out.trans0 hk)
 have Bg5:=jX b5
 have Bg6:=jX b6
 clear hk b5 h5 b6 h6 n5_6
 clear Bga Bgb HC0 HC1
 go_upto_region 2 with (fail)
 refine wp_region_lit ?_
 have pg5:=cell_of Bg5.out
 refine' wpList_R (v:=_) (by rfl) (?hrunr2x0) (fun K hK=>?hnextr2x0)
 case hrunr2x0=>(go_simp;try rfl)
 go_simp
 refine hK _ _ ?_
 clear hK K
 clear pg5
 refine wpList_R (v:=.agg (kC k1)) (by rfl) (exec_load _ _ ⟨g6,0,none⟩ _ rfl rfl (kw_k Bg6.out ⟨_,Keep.refl _ _⟩)) (fun K hK=>?_)
 go_simp
 refine hK _ _ ?_
 clear hK K
 refine wpList_plain (by rfl) (fun K hK=>?_)
 refine wp_enter 17 #[.agg #[.slice da_w1 D0.length dc_w1,.slice ta_w1 T0.length tc_w1],.agg (kC k1)] (by go_simp) ?_
 refine (HM.out.matT (ma 0 rfl) (ma 1 rfl) Xe0.out Xe1.out).mono ?_
 rintro e w6 ⟨rfl,hm⟩
 have hk:=hm.keep
 have HM:=jX hm.here
 have HK:=jX (HK.out.trans0 hk)
 have Bg5:=jX (hk.heap Bg5.out (by simp))
 have Bg6:=jX (hk.heap Bg6.out (by simp))
 clear hm hk
 refine ⟨_,rfl,?_⟩
 go_simp
 refine hK _ _ ?_
 clear hK K
 refine' wpList_R (v:=_) (by rfl) (?hrunr2x3) (fun K hK=>?hnextr2x3)
 case hrunr2x3=>(go_simp;try rfl)
 go_simp
 refine hK _ _ ?_
 clear hK K
 refine' wpList_R (v:=_) (by rfl) (?hrunr2x4) (fun K hK=>?hnextr2x4)
 case hrunr2x4=>(go_simp;try rfl)
 go_simp
 refine hK _ _ ?_
 clear hK K
 refine' wpList_R (v:=_) (by rfl) (?hrunr2x5) (fun K hK=>?hnextr2x5)
 case hrunr2x5=>(go_simp;try rfl)
 go_simp
 refine hK _ _ ?_
 clear hK K
 refine' wpList_R (v:=_) (by rfl) (?hrunr2x6) (fun K hK=>?hnextr2x6)
 case hrunr2x6=>(go_simp;try rfl)
 go_simp
 refine hK _ _ ?_
 clear hK K
 refine' wpList_R (v:=_) (by rfl) (?hrunr2x7) (fun K hK=>?hnextr2x7)
 case hrunr2x7=>(go_simp;try rfl)
 go_simp
 refine hK _ _ ?_
 clear hK K
 go_upto_region 3 with (fail)
 refine wp_region_lit ?_
 have pg5:=cell_of Bg5.out
 refine' wpList_R (v:=_) (by rfl) (?hrunr3x0) (fun K hK=>?hnextr3x0)
 case hrunr3x0=>(go_simp;try rfl)
 go_simp
 refine hK _ _ ?_
 clear hK K
 clear pg5
 refine wpList_R (v:=.agg (kC k1)) (by rfl) (exec_load _ _ ⟨g6,0,none⟩ _ rfl rfl (kw_k Bg6.out ⟨_,Keep.refl _ _⟩)) (fun K hK=>?_)
 go_simp
 refine hK _ _ ?_
 clear hK K
 refine wpList_plain (by rfl) (fun K hK=>?_)
 refine wp_enter 18 #[.agg #[.slice da_w1 D0.length dc_w1,.slice ta_w1 T0.length tc_w1],.agg (kC k1)] (by go_simp) ?_
 refine (HM.out.ratT (ma 0 rfl) (ma 1 rfl) Xe0.out Xe1.out).mono ?_
 rintro e w7 ⟨rfl,hm⟩
 have hk:=hm.keep
 have HM:=jX hm.here
 have HK:=jX (HK.out.trans0 hk)
 have Bg5:=jX (hk.heap Bg5.out (by simp))
 have Bg6:=jX (hk.heap Bg6.out (by simp))
 clear hm hk
 refine ⟨_,rfl,?_⟩
 go_simp
 refine hK _ _ ?_
 clear hK K
 refine' wpList_R (v:=_) (by rfl) (?hrunr3x3) (fun K hK=>?hnextr3x3)
 case hrunr3x3=>(go_simp;try rfl)
 go_simp
 refine hK _ _ ?_
 clear hK K
 refine' wpList_R (v:=_) (by rfl) (?hrunr3x4) (fun K hK=>?hnextr3x4)
 case hrunr3x4=>(go_simp;try rfl)
 go_simp
 refine hK _ _ ?_
 clear hK K
 refine' wpList_R (v:=_) (by rfl) (?hrunr3x5) (fun K hK=>?hnextr3x5)
 case hrunr3x5=>(go_simp;try rfl)
 go_simp
 refine hK _ _ ?_
 clear hK K
 refine' wpList_R (v:=_) (by rfl) (?hrunr3x6) (fun K hK=>?hnextr3x6)
 case hrunr3x6=>(go_simp;try rfl)
 go_simp
 refine hK _ _ ?_
 clear hK K
 refine' wpList_R (v:=_) (by rfl) (?hrunr3x7) (fun K hK=>?hnextr3x7)
 case hrunr3x7=>(go_simp;try rfl)
 go_simp
 refine hK _ _ ?_
 clear hK K
 go_upto_region 4 with (fail)
 refine wp_region_lit ?_
 have pg5:=cell_of Bg5.out
 refine' wpList_R (v:=_) (by rfl) (?hrunr4x0) (fun K hK=>?hnextr4x0)
 case hrunr4x0=>(go_simp;try rfl)
 go_simp
 refine hK _ _ ?_
 clear hK K
 clear pg5
 refine wpList_plain (by rfl) (fun K hK=>?_)
 refine wp_enter 19 #[.agg #[.slice da_w1 D0.length dc_w1,.slice ta_w1 T0.length tc_w1]] (by go_simp) ?_
 refine (HM.out.mfalse (ma 0 rfl) (ma 1 rfl)).mono ?_
 rintro e w8 ⟨vo_w8,vc_w8,rfl,hm⟩
 have hk:=hm.keep
 have HM:=jX hm.here
 have HK:=jX (HK.out.trans0 hk)
 have Bg5:=jX (hk.heap Bg5.out (by simp))
 have Bg6:=jX (hk.heap Bg6.out (by simp))
 clear hm hk
 refine ⟨_,rfl,?_⟩
 go_simp
 refine hK _ _ ?_
 clear hK K
 refine' wpList_R (v:=_) (by rfl) (?hrunr4x2) (fun K hK=>?hnextr4x2)
 case hrunr4x2=>(go_simp;try rfl)
 go_simp
 refine hK _ _ ?_
 clear hK K
 go_upto_region 5 with (fail)
 have h0:=Xh0.out
 clear Xh0
 rcases q0<;>rcases r0<;>simp only [Bool.false_eq_true,false_imp_iff,forall_const,imp_self,reduceCtorEq] at h0
 all_goals (
  refine wp_region_lit ?_
  refine gWC (by rfl) (fun K hK=>?_)
  refine wp_enter 20 #[] (by go_simp) ?_
  refine (known12_c _).mono ?_
  rintro e w9 ⟨rfl,hm⟩
  have hm:=HM.out.here.move hm
  have hk:=hm.keep
  have HM:=jX hm.here
  have HK:=jX (HK.out.trans0 hk)
  have Bg5:=jX (hk.heap Bg5.out (by simp))
  have Bg6:=jX (hk.heap Bg6.out (by simp))
  clear hm hk
  refine ⟨_,rfl,?_⟩
  go_simp
  refine hK _ _ ?_
  clear hK K
  first|(refine gWE (by rfl) ?_;refine ⟨?_,?_,fun K hK=>?_⟩;rotate_left 1;(go_simp;try rfl);go_simp;refine hK _ _ ?_;clear hK K)|(refine gWS (by rfl) (fun K hK=>?_);go_simp;refine hK _ _ ?_;clear hK K)
  first|(refine gWE (by rfl) ?_;refine ⟨?_,?_,fun K hK=>?_⟩;rotate_left 1;(go_simp;try rfl);go_simp;refine hK _ _ ?_;clear hK K)|(refine gWS (by rfl) (fun K hK=>?_);go_simp;refine hK _ _ ?_;clear hK K)
  first|(refine gWE (by rfl) ?_;refine ⟨?_,?_,fun K hK=>?_⟩;rotate_left 1;(go_simp;try rfl);go_simp;refine hK _ _ ?_;clear hK K)|(refine gWS (by rfl) (fun K hK=>?_);go_simp;refine hK _ _ ?_;clear hK K)
  first|(refine gWE (by rfl) ?_;refine ⟨?_,?_,fun K hK=>?_⟩;rotate_left 1;(go_simp;try rfl);go_simp;refine hK _ _ ?_;clear hK K)|(refine gWS (by rfl) (fun K hK=>?_);go_simp;refine hK _ _ ?_;clear hK K)
  first|(refine gWE (by rfl) ?_;refine ⟨?_,?_,fun K hK=>?_⟩;rotate_left 1;(go_simp;try rfl);go_simp;refine hK _ _ ?_;clear hK K)|(refine gWS (by rfl) (fun K hK=>?_);go_simp;refine hK _ _ ?_;clear hK K)
  first|(refine gWE (by rfl) ?_;refine ⟨?_,?_,fun K hK=>?_⟩;rotate_left 1;(go_simp;try rfl);go_simp;refine hK _ _ ?_;clear hK K)|(refine gWS (by rfl) (fun K hK=>?_);go_simp;refine hK _ _ ?_;clear hK K)
  first|(refine gWE (by rfl) ?_;refine ⟨?_,?_,fun K hK=>?_⟩;rotate_left 1;(go_simp;try rfl);go_simp;refine hK _ _ ?_;clear hK K)|(refine gWS (by rfl) (fun K hK=>?_);go_simp;refine hK _ _ ?_;clear hK K)
  first|(refine gWE (by rfl) ?_;refine ⟨?_,?_,fun K hK=>?_⟩;rotate_left 1;(go_simp;try rfl);go_simp;refine hK _ _ ?_;clear hK K)|(refine gWS (by rfl) (fun K hK=>?_);go_simp;refine hK _ _ ?_;clear hK K)
  first|(refine gWE (by rfl) ?_;refine ⟨?_,?_,fun K hK=>?_⟩;rotate_left 1;(go_simp;try rfl);go_simp;refine hK _ _ ?_;clear hK K)|(refine gWS (by rfl) (fun K hK=>?_);go_simp;refine hK _ _ ?_;clear hK K)
  first|(refine gWE (by rfl) ?_;refine ⟨?_,?_,fun K hK=>?_⟩;rotate_left 1;(go_simp;try rfl);go_simp;refine hK _ _ ?_;clear hK K)|(refine gWS (by rfl) (fun K hK=>?_);go_simp;refine hK _ _ ?_;clear hK K)
  first|(refine gWE (by rfl) ?_;refine ⟨?_,?_,fun K hK=>?_⟩;rotate_left 1;(go_simp;try rfl);go_simp;refine hK _ _ ?_;clear hK K)|(refine gWS (by rfl) (fun K hK=>?_);go_simp;refine hK _ _ ?_;clear hK K)
  first|(refine gWE (by rfl) ?_;refine ⟨?_,?_,fun K hK=>?_⟩;rotate_left 1;(go_simp;try rfl);go_simp;refine hK _ _ ?_;clear hK K)|(refine gWS (by rfl) (fun K hK=>?_);go_simp;refine hK _ _ ?_;clear hK K)
  have pg5:=cell_of Bg5.out
  first|(refine gWE (by rfl) ?_;refine ⟨?_,?_,fun K hK=>?_⟩;rotate_left 1;(go_simp;try rfl);go_simp;refine hK _ _ ?_;clear hK K)|(refine gWS (by rfl) (fun K hK=>?_);go_simp;refine hK _ _ ?_;clear hK K)
  clear pg5
  refine gWC (by rfl) (fun K hK=>?_)
  refine wp_enter 22 #[.agg #[.slice da_w1 D0.length dc_w1,.slice ta_w1 T0.length tc_w1]] (by go_simp) ?_
  refine (HM.out.rfalse (ma 1 rfl) (ma 2 rfl)).mono ?_
  rintro e w10 ⟨vo_w10,vc_w10,rfl,hm⟩
  have hk:=hm.keep
  have HM:=jX hm.here
  have HK:=jX (HK.out.trans0 hk)
  have Bg5:=jX (hk.heap Bg5.out (by simp))
  have Bg6:=jX (hk.heap Bg6.out (by simp))
  clear hm hk
  refine ⟨_,rfl,?_⟩
  go_simp
  refine hK _ _ ?_
  clear hK K
  refine gWC (by rfl) (fun K hK=>?_)
  refine wp_enter 21 #[.slice vo_w8 (combK 3 D0 T0).length vc_w8,.slice vo_w10 (combK 3 D0 T0).length vc_w10] (by go_simp) ?_
  refine (HM.out.eq (ma 1 rfl) (ma 0 rfl) rfl).mono ?_
  rintro e w11 ⟨rfl,hm⟩
  have hk:=hm.keep
  have HM:=jX hm.here
  have HK:=jX (HK.out.trans0 hk)
  have Bg5:=jX (hk.heap Bg5.out (by simp))
  have Bg6:=jX (hk.heap Bg6.out (by simp))
  clear hm hk
  refine ⟨_,rfl,?_⟩
  go_simp
  refine hK _ _ ?_
  clear hK K
  first|(refine gWE (by rfl) ?_;refine ⟨?_,?_,fun K hK=>?_⟩;rotate_left 1;(go_simp;try rfl);go_simp;refine hK _ _ ?_;clear hK K)|(refine gWS (by rfl) (fun K hK=>?_);go_simp;refine hK _ _ ?_;clear hK K)
  first|(refine gWE (by rfl) ?_;refine ⟨?_,?_,fun K hK=>?_⟩;rotate_left 1;(go_simp;try rfl);go_simp;refine hK _ _ ?_;clear hK K)|(refine gWS (by rfl) (fun K hK=>?_);go_simp;refine hK _ _ ?_;clear hK K)
  first|(refine gWE (by rfl) ?_;refine ⟨?_,?_,fun K hK=>?_⟩;rotate_left 1;(go_simp;try rfl);go_simp;refine hK _ _ ?_;clear hK K)|(refine gWS (by rfl) (fun K hK=>?_);go_simp;refine hK _ _ ?_;clear hK K)
  refine gWE (by rfl) ⟨.agg (kC k1),exec_load _ _ ⟨g6,0,none⟩ _ rfl rfl (kw_k Bg6.out ⟨_,Keep.refl _ _⟩),fun K hK=>?_⟩
  go_simp
  refine hK _ _ ?_
  clear hK K
  refine gWC (by rfl) (fun K hK=>?_)
  refine wp_enter 23 #[.slice vo_w8 (combK 3 D0 T0).length vc_w8,.agg (kC k1)] (by go_simp) ?_
  refine (HM.out.holdT (ma 1 rfl) Xhf.out).mono ?_
  rintro e w12 ⟨rfl,hm⟩
  have hk:=hm.keep
  have HM:=jX hm.here
  have HK:=jX (HK.out.trans0 hk)
  have Bg5:=jX (hk.heap Bg5.out (by simp))
  have Bg6:=jX (hk.heap Bg6.out (by simp))
  clear hm hk
  refine ⟨_,rfl,?_⟩
  go_simp
  refine hK _ _ ?_
  clear hK K
  first|(refine gWE (by rfl) ?_;refine ⟨?_,?_,fun K hK=>?_⟩;rotate_left 1;(go_simp;try rfl);go_simp;refine hK _ _ ?_;clear hK K)|(refine gWS (by rfl) (fun K hK=>?_);go_simp;refine hK _ _ ?_;clear hK K)
  first|(refine gWE (by rfl) ?_;refine ⟨?_,?_,fun K hK=>?_⟩;rotate_left 1;(go_simp;try rfl);go_simp;refine hK _ _ ?_;clear hK K)|(refine gWS (by rfl) (fun K hK=>?_);go_simp;refine hK _ _ ?_;clear hK K)
  first|(refine gWE (by rfl) ?_;refine ⟨?_,?_,fun K hK=>?_⟩;rotate_left 1;(go_simp;try rfl);go_simp;refine hK _ _ ?_;clear hK K)|(refine gWS (by rfl) (fun K hK=>?_);go_simp;refine hK _ _ ?_;clear hK K)
  first|(refine gWE (by rfl) ?_;refine ⟨?_,?_,fun K hK=>?_⟩;rotate_left 1;(go_simp;try rfl);go_simp;refine hK _ _ ?_;clear hK K)|(refine gWS (by rfl) (fun K hK=>?_);go_simp;refine hK _ _ ?_;clear hK K)
  first|(refine gWE (by rfl) ?_;refine ⟨?_,?_,fun K hK=>?_⟩;rotate_left 1;(go_simp;try rfl);go_simp;refine hK _ _ ?_;clear hK K)|(refine gWS (by rfl) (fun K hK=>?_);go_simp;refine hK _ _ ?_;clear hK K)
  first|(refine gWE (by rfl) ?_;refine ⟨?_,?_,fun K hK=>?_⟩;rotate_left 1;(go_simp;try rfl);go_simp;refine hK _ _ ?_;clear hK K)|(refine gWS (by rfl) (fun K hK=>?_);go_simp;refine hK _ _ ?_;clear hK K)
  first|(refine gWE (by rfl) ?_;refine ⟨?_,?_,fun K hK=>?_⟩;rotate_left 1;(go_simp;try rfl);go_simp;refine hK _ _ ?_;clear hK K)|(refine gWS (by rfl) (fun K hK=>?_);go_simp;refine hK _ _ ?_;clear hK K)
  first|(refine gWE (by rfl) ?_;refine ⟨?_,?_,fun K hK=>?_⟩;rotate_left 1;(go_simp;try rfl);go_simp;refine hK _ _ ?_;clear hK K)|(refine gWS (by rfl) (fun K hK=>?_);go_simp;refine hK _ _ ?_;clear hK K)
  go_wp2_with fail
  go_ret
  exact ⟨rfl,HK.out⟩)
end Go.Proofs.YtejegogbhpmgfaaGreatDoor
