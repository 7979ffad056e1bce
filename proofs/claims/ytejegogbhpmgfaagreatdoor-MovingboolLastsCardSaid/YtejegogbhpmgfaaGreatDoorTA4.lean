/- Parts of a proof about this translation: Oq@4, Base@4, Nb@4, Nu@4, Rl@4, Pk@4, Ri@4, Ss@4, Pn@4, Ug@4, Uh@4, Vd@4, Ve@4, Vf@4, Vk@4, Vg@4, Vh@4, Vi@4, Me@4, Mi@4, Mj@4, Mr@4, Ms@4, Gb@4, H4@4. -/
import Derived.WalkKit
import Derived.WalkLawsBesides
import Derived.WalkSpells
import Derived.ProofKit
import Derived.OpenShut
import Derived.Handy
import Derived.BigQuiet
import Derived.Lib.Hide
import Derived.Deep.AppendSrc
import Derived.Lib.Builder
import Derived.Lib.AppendStr
import Derived.Lib.UnsafeStr
import Derived.Lib.Walk
import Derived.Lib.Strings
import Derived.Laws.Externs
import Derived.Sort.Grow
import Derived.Deep.Draws
import Derived.StillTail
import Derived.OrdersHeld
import Derived.Lib.Bytealg
import Derived.Lib.Small
import Derived.Deep.LoopGhost
import Derived.IntWalk
import Derived.Lib.SliceRun
import Derived.Test.YtejegogbhpmgfaaGreatDoorA01
import Derived.Test.YtejegogbhpmgfaaGreatDoorA02
import Derived.Test.YtejegogbhpmgfaaGreatDoorProg
import Derived.Test.YtejegogbhpmgfaaGreatDoorA03
import Derived.Test.YtejegogbhpmgfaaGreatDoorA12
import Derived.Test.YtejegogbhpmgfaaGreatDoorA13
import Derived.Test.YtejegogbhpmgfaaGreatDoorA10
import Derived.Test.YtejegogbhpmgfaaGreatDoorA31
import Derived.Test.YtejegogbhpmgfaaGreatDoorA30
import Derived.Test.YtejegogbhpmgfaaGreatDoorA32
import Derived.Test.YtejegogbhpmgfaaGreatDoorA26
import Derived.Test.YtejegogbhpmgfaaGreatDoorA33
import Derived.Test.YtejegogbhpmgfaaGreatDoorA25
import Derived.Test.YtejegogbhpmgfaaGreatDoorA34
import Derived.Test.YtejegogbhpmgfaaGreatDoorA37
import Derived.Test.YtejegogbhpmgfaaGreatDoorA36
import Derived.Test.YtejegogbhpmgfaaGreatDoorA38
set_option linter.unusedVariables false
set_option linter.unusedSimpArgs false
set_option maxRecDepth 100000
set_option maxHeartbeats 8000000
namespace Go.Proofs.YtejegogbhpmgfaaGreatDoor
theorem Below1.mono {q q':Rat} {x:Qn} (hx:0≤x.r) (h:Below1 q x) (hq:q'≤q):Below1 q' x:=Pos.mono hx h (by grind)
end Go.Proofs.YtejegogbhpmgfaaGreatDoor
namespace Go.Proofs.YtejegogbhpmgfaaGreatDoor
open Go.RowKit
theorem Keep.below {F:List Nat} {w w':World} {B:Nat} (h:Keep F w w') (hF:∀ x∈F,B≤x) (hB:B≤w.heap.size):Below B w w' :=
 ⟨h.os,h.tape,h.output,h.size,fun k hk=>h.block k (by omega) (fun hm=>by have:=hF k hm;omega)⟩
theorem Keep.drewN (F:List Nat) (w:World) (n:Nat):Keep F w (w.drewN n):=⟨rfl,rfl,rfl,Nat.le_refl _,Nat.le_add_right _ _,fun _ _ _=>rfl⟩
section
variable {P:Program} {ops:Array Oper} {C:World→Prop} {Q:Act→Prop} {a:Act} {o:Oper} {rest:List Oper}
end
section
variable {P:Program} (w:World)
end
theorem RowR.lt {w:World} {sv:Value} {xs:List Value} (h:RowR w sv xs):∀ x∈rowF sv,x<w.heap.size:=by
 rcases h with ⟨rfl,_⟩|⟨g,o,c,rfl,hg,hc⟩
 ·simp [rowF]
 ·simpa [rowF] using hg
theorem RowR.elem {w:World} {sv:Value} {xs:List Value} (h:RowR w sv xs) (hn:0<xs.length):∃ g o c,sv = .slice (some ⟨g,o,none⟩) xs.length c∧∀ i v,xs[i]? = some v→w.cell? ⟨g,o+i,none⟩=some v:=by
 rcases h with ⟨rfl,rfl⟩|⟨g,o,c,rfl,hg,hc⟩
 ·simp at hn
 ·exact ⟨g,o,c,rfl,hc⟩
end Go.Proofs.YtejegogbhpmgfaaGreatDoor
namespace Go.Proofs.YtejegogbhpmgfaaGreatDoor
open Go.RowKit
section
variable {P:Program} {ops:Array Oper} {md:Region.Mode} {C:World→Prop}
end
end Go.Proofs.YtejegogbhpmgfaaGreatDoor
namespace Go.Proofs.YtejegogbhpmgfaaGreatDoor
open Go.RowKit
section
variable {P:Program} {ops:Array Oper} {md:Region.Mode} {S:World→Prop} {Q:Exit→Act→World→Prop}
end
end Go.Proofs.YtejegogbhpmgfaaGreatDoor
namespace Go.Proofs.YtejegogbhpmgfaaGreatDoor
open Go.RowKit
section
variable {P:Program} {ops:Array Oper} {md:Region.Mode} {S:World→Prop} {Q:Exit→Act→World→Prop}
end
end Go.Proofs.YtejegogbhpmgfaaGreatDoor
namespace Go.Proofs.YtejegogbhpmgfaaGreatDoor
open Go.RowKit
section
variable {P:Program} {ops:Array Oper} {md:Region.Mode} {C S:World→Prop}
variable {Q:Exit→Act→World→Prop}
end
end Go.Proofs.YtejegogbhpmgfaaGreatDoor
namespace Go.Proofs.YtejegogbhpmgfaaGreatDoor
theorem magS_list (n:Nat):(magS n).data.toList=magL n:=rfl
end Go.Proofs.YtejegogbhpmgfaaGreatDoor
namespace Go.Proofs.YtejegogbhpmgfaaGreatDoor
end Go.Proofs.YtejegogbhpmgfaaGreatDoor
namespace Go.Proofs.YtejegogbhpmgfaaGreatDoor
section
variable {B V P Yl T Xl g:Nat}
end
end Go.Proofs.YtejegogbhpmgfaaGreatDoor
namespace Go.Proofs.YtejegogbhpmgfaaGreatDoor
open Go.RowKit
theorem Shift_c (x:Qn) (q:Rat) (hx:FitQ 10000000000 x.p) (hq:FitQ 10000000000 q) (w:World) :
  Calls Tryz.prog 130 #[qv x,rv q] w fun e w'=>e = .returned (qv ⟨x.p+q,x.r,x.neg⟩)∧Keep [] w w':=by
 have Hs:=jX (QAdd_c x.p q hx hq)
 unfold qv rv at *
 dsimp only
 generalize sgB (x.p+q).num=nr at *
 generalize mgS (x.p+q).num=sr at *
 generalize dnS (x.p+q).den=dr at *
 generalize sgB (x.p).num=a1 at *
 generalize mgS (x.p).num=a2 at *
 generalize dnS (x.p).den=a3 at *
 generalize sgB (x.r).num=a4 at *
 generalize mgS (x.r).num=a5 at *
 generalize dnS (x.r).den=a6 at *
 generalize sgB (q).num=b1 at *
 generalize mgS (q).num=b2 at *
 generalize dnS (q).den=b3 at *
 generalize x.neg=a7 at *
 clear hx hq
 go_enter Tryz.func130,Tryz.ntmps130
 go_wp2_with fail
 obtain⟨W,ga,gb,gc,hW,ega,egb,egc,bga,bgb,bgc,hga,hgb,hgc,hgW,hkW⟩:=al3 w (.cells #[.bool a1,.string a2,.bool false,.string a3,.bool a4,.string a5,.bool false,.string a6,.bool a7] 36) (.cells #[.bool b1,.string b2,.bool false,.string b3] 34) (.cells #[.bool false,.string ⟨#[]⟩,.bool false,.string ⟨#[]⟩,.bool false,.string ⟨#[]⟩,.bool false,.string ⟨#[]⟩,.bool false] 36)
 rw [← hW]
 try rw [egc]
 try rw [egb]
 try rw [ega]
 have Bga:=jX bga
 have Bgb:=jX bgb
 have Bgc:=jX bgc
 have HkW:=jX hkW
 clear hW hkW ega egb egc bga bgb bgc
 refine (Hs.out _).mono ?_
 rintro e wz ⟨rfl,hk_wz⟩
 dsimp only
 clear Hs
 have B2ga:=jX (hk_wz.heap Bga.out (by simp))
 have B2gb:=jX (hk_wz.heap Bgb.out (by simp))
 have B2gc:=jX (hk_wz.heap Bgc.out (by simp))
 have HkW2:=jX (HkW.out.trans0 hk_wz)
 clear HkW hk_wz Bga Bgb Bgc
 have Bga:=B2ga
 have Bgb:=B2gb
 have Bgc:=B2gc
 have HkW:=HkW2
 clear HkW2 B2ga B2gb B2gc
 have pga:=cell_of Bga.out
 have fga:=frozen_of Bga.out
 have lga:=lt_of_heap Bga.out
 have pgc:=cell_of Bgc.out
 have fgc:=frozen_of Bgc.out
 have lgc:=lt_of_heap Bgc.out
 go_wp2_with fail
 refine bodyPost_ret (v:=.agg #[.bool nr,.string sr,.bool false,.string dr,.bool a4,.string a5,.bool false,.string a6,.bool a7]) ?_ rfl ⟨rfl,by repeat (first|(with_reducible exact HkW.out)|(refine Keep.setPast ?_ _ _ _ (by omega))|(refine Keep.allocPast ?_ _)|(refine Keep.drewPast ?_))⟩
 rw [results_cell1 rfl];go_simp
end Go.Proofs.YtejegogbhpmgfaaGreatDoor
namespace Go.Proofs.YtejegogbhpmgfaaGreatDoor
theorem K.lt_def {x y:K}:x<y↔Lt x.1 y.1:=Iff.rfl
theorem K.le_def {x y:K}:x≤y ↔ ¬ Lt y.1 x.1:=Iff.rfl
end Go.Proofs.YtejegogbhpmgfaaGreatDoor
namespace Go.Proofs.YtejegogbhpmgfaaGreatDoor
open Go.RowKit
theorem OI.later {w0 w w':World} {v:Value} {l:List Nat} (h:OI w0 w v l) (hk:Keep [] w w'):OI w0 w' v l :=
 ⟨own_keep' h.row hk (by simp),h.base,h.keep.trans0 hk⟩
theorem IvAt.all {w:World} {b o:Nat} {i:Iv K} (h:IvAt w b o i):(w.cell? ⟨b,o,none⟩=some (.bool (sgB i.f.pt.1.p.num)))∧(w.cell? ⟨b,o+1,none⟩=some (.string (mgS i.f.pt.1.p.num)))∧(w.cell? ⟨b,o+2,none⟩=some (.bool false))∧(w.cell? ⟨b,o+3,none⟩=some (.string (dnS i.f.pt.1.p.den)))∧(w.cell? ⟨b,o+4,none⟩=some (.bool (sgB i.f.pt.1.r.num)))∧(w.cell? ⟨b,o+5,none⟩=some (.string (mgS i.f.pt.1.r.num)))∧(w.cell? ⟨b,o+6,none⟩=some (.bool false))∧(w.cell? ⟨b,o+7,none⟩=some (.string (dnS i.f.pt.1.r.den)))∧(w.cell? ⟨b,o+8,none⟩=some (.bool i.f.pt.1.neg))∧(w.cell? ⟨b,o+9,none⟩=some (.bool (sgB i.l.pt.1.p.num)))∧(w.cell? ⟨b,o+10,none⟩=some (.string (mgS i.l.pt.1.p.num)))∧(w.cell? ⟨b,o+11,none⟩=some (.bool false))∧(w.cell? ⟨b,o+12,none⟩=some (.string (dnS i.l.pt.1.p.den)))∧(w.cell? ⟨b,o+13,none⟩=some (.bool (sgB i.l.pt.1.r.num)))∧(w.cell? ⟨b,o+14,none⟩=some (.string (mgS i.l.pt.1.r.num)))∧(w.cell? ⟨b,o+15,none⟩=some (.bool false))∧(w.cell? ⟨b,o+16,none⟩=some (.string (dnS i.l.pt.1.r.den)))∧(w.cell? ⟨b,o+17,none⟩=some (.bool i.l.pt.1.neg))∧(w.cell? ⟨b,o+18,none⟩=some (.bool i.f.beh))∧(w.cell? ⟨b,o+19,none⟩=some (.bool (!i.l.beh))) :=
 ⟨h 0 _ rfl,h 1 _ rfl,h 2 _ rfl,h 3 _ rfl,h 4 _ rfl,h 5 _ rfl,h 6 _ rfl,h 7 _ rfl,h 8 _ rfl,h 9 _ rfl,h 10 _ rfl,h 11 _ rfl,h 12 _ rfl,h 13 _ rfl,h 14 _ rfl,h 15 _ rfl,h 16 _ rfl,h 17 _ rfl,h 18 _ rfl,h 19 _ rfl⟩
theorem KAt.all {w:World} {b o:Nat} {x:K} (h:KAt w b o x.1):(w.cell? ⟨b,o,none⟩=some (.bool (sgB x.1.p.num)))∧(w.cell? ⟨b,o+1,none⟩=some (.string (mgS x.1.p.num)))∧(w.cell? ⟨b,o+2,none⟩=some (.bool false))∧(w.cell? ⟨b,o+3,none⟩=some (.string (dnS x.1.p.den)))∧(w.cell? ⟨b,o+4,none⟩=some (.bool (sgB x.1.r.num)))∧(w.cell? ⟨b,o+5,none⟩=some (.string (mgS x.1.r.num)))∧(w.cell? ⟨b,o+6,none⟩=some (.bool false))∧(w.cell? ⟨b,o+7,none⟩=some (.string (dnS x.1.r.den)))∧(w.cell? ⟨b,o+8,none⟩=some (.bool x.1.neg)) :=
 ⟨h 0 _ rfl,h 1 _ rfl,h 2 _ rfl,h 3 _ rfl,h 4 _ rfl,h 5 _ rfl,h 6 _ rfl,h 7 _ rfl,h 8 _ rfl⟩
section
variable {α:Type} (enc:α→List Value)
variable {enc}
theorem OE.step {e:TypeId} {k:Nat} {w0 wr wa:World} {v:Value} {l:List α} (h:OE enc e k w0 wr v l) {g cap:Nat} {x:α} {o:Obj} (hoa:wa.ownsRow 0 e k (.slice (some ⟨g,0,none⟩) (l.length+1) cap) (l.length+1) (l.flatMap enc++enc x))
  (hga:(wr.alloc o).grownBy wa v.ownBlock) (hfa:some g=v.ownBlock∨wr.heap.size+1≤g) (hda:(wr.alloc o).drawn≤wa.drawn) :
  OE enc e k w0 wa (.slice (some ⟨g,0,none⟩) (l.length+1) cap) (l++[x]):=by
 refine ⟨?_,?_,?_⟩
 ·rw [List.flatMap_append,List.length_append]
  simpa using hoa
 ·intro k hk
  simp [Value.ownBlock] at hk
  subst hk
  rcases hfa with h1|h1
  ·exact h.base _ h1.symm
  ·have:=h.keep.size
   omega
 ·exact (h.keep.allocPast _).grownPast hga hda (fun k hk=>h.base k hk)
end
end Go.Proofs.YtejegogbhpmgfaaGreatDoor
namespace Go.Proofs.YtejegogbhpmgfaaGreatDoor
theorem PtsIn.sub {S:List K} {l m:List (Iv K)} (h:PtsIn S l) (hm:∀ i∈m,i∈l):PtsIn S m:=fun i hi=>h i (hm i hi)
theorem NormF.of {l:List (Iv K)}:∀ {b:Bd K},(∀ i∈l,b<i.f)→(∀ i∈l,i.f<i.l)→l.Pairwise (fun i j=>i.l<j.f)→NormF l b:=by
 induction l with
 | nil=>intro b _ _ _;trivial
 | cons i l ih =>
  intro b h1 h2 h3
  obtain⟨h4,h5⟩:=List.pairwise_cons.1 h3
  exact ⟨h1 i (by simp),h2 i (by simp),ih h4 (fun j hj=>h2 j (by simp [hj])) h5⟩
theorem Norm.of {l:List (Iv K)} (h2:∀ i∈l,i.f<i.l) (h3:l.Pairwise (fun i j=>i.l<j.f)):Norm l:=by
 cases l with
 | nil=>trivial
 | cons i l =>
  obtain⟨h4,h5⟩:=List.pairwise_cons.1 h3
  exact ⟨h2 i (by simp),NormF.of h4 (fun j hj=>h2 j (by simp [hj])) h5⟩
theorem Per.nil (S:List K):Per S []:=⟨trivial,PtsIn.nil S⟩
end Go.Proofs.YtejegogbhpmgfaaGreatDoor
namespace Go.Proofs.YtejegogbhpmgfaaGreatDoor
open Go.RowKit
open Classical
structure RawR where
 a1:Bool
 a2:ByteArray
 a3:Bool
 a4:ByteArray
 b1:Bool
 b2:ByteArray
 b3:Bool
 b4:ByteArray
 n:Bool
def RawR.cells (x:RawR):List Value:=[.bool x.a1,.string x.a2,.bool x.a3,.string x.a4,.bool x.b1,.string x.b2,.bool x.b3,.string x.b4,.bool x.n]
def RawR.v (x:RawR):Value:=.agg #[.bool x.a1,.string x.a2,.bool x.a3,.string x.a4,.bool x.b1,.string x.b2,.bool x.b3,.string x.b4,.bool x.n]
def RawR.of (x:Qn):RawR:=⟨sgB x.p.num,mgS x.p.num,false,dnS x.p.den,sgB x.r.num,mgS x.r.num,false,dnS x.r.den,x.neg⟩
theorem MI.get {w0 w:World} {L:List (Value × List (Iv K))} (h:MI w0 w L) (v:Value) (l:List (Iv K)) (hm:(v,l)∈L):IvR w v l:=h.2 (v,l) hm
end Go.Proofs.YtejegogbhpmgfaaGreatDoor
namespace Go.Proofs.YtejegogbhpmgfaaGreatDoor
open Go.RowKit
open Go.ChangeShapes Go.WideShapes Go.ChangeAt
def FrArg (_:World) (v:Value):Prop:=∃ a:FrA,v=a.v
theorem cells_int:Tryz.prog.cellsOf 3=1:=by kernel_rfl
theorem cells_Frac:Tryz.prog.cellsOf 61=4:=by kernel_rfl
theorem frac_trod {H:Type} {enc:TypeId × Value→H} {w:World} {base:Nat} {held:Bool} {fuel:Nat} {cs:List Value} {x:DataW H × List MemPlace} (h:DataW.trod enc Tryz.prog w base (fun _=>true) held fuel 61 cs=some x):∃ a:FrA,cs=[.int .i64 a.num,.int .i64 a.den,.int .u8 a.up,.int .u8 a.down]:=by
 obtain⟨xs,n,_,rfl,hl,hlen,hf⟩:=DataW.trod_struct Tryz.underlying61 h
 rw [cells_Frac] at hl
 match cs,hl with
 | [c0,c1,c2,c3],_ =>
  match xs,hlen with
  | [x0,x1,x2,x3],_ =>
   have h0:DataW.trod enc Tryz.prog w base (fun _=>true) held n 3 (([c0,c1,c2,c3].drop 0).take (Tryz.prog.cellsOf 3))=some x0:=hf 0 _ rfl
   have h1:DataW.trod enc Tryz.prog w base (fun _=>true) held n 3 (([c0,c1,c2,c3].drop 1).take (Tryz.prog.cellsOf 3))=some x1:=hf 1 _ rfl
   have h2:DataW.trod enc Tryz.prog w base (fun _=>true) held n 5 (([c0,c1,c2,c3].drop 2).take (Tryz.prog.cellsOf 5))=some x2:=hf 2 _ rfl
   have h3:DataW.trod enc Tryz.prog w base (fun _=>true) held n 5 (([c0,c1,c2,c3].drop 3).take (Tryz.prog.cellsOf 5))=some x3:=hf 3 _ rfl
   rw [cells_int] at h0 h1
   rw [cells_u8] at h2 h3
   obtain⟨n0,e0,_,w0⟩:=DataW.trod_int Tryz.underlying3 h0
   obtain⟨n1,e1,_,w1⟩:=DataW.trod_int Tryz.underlying3 h1
   obtain⟨n2,e2,_,w2⟩:=DataW.trod_int Tryz.underlying5 h2
   obtain⟨n3,e3,_,w3⟩:=DataW.trod_int Tryz.underlying5 h3
   simp at e0 e1 e2 e3
   subst e0 e1 e2 e3
   have b0:=bounds_i64 w0
   have b1:=bounds_i64 w1
   have b2:=bounds_u8 w2
   have b3:=bounds_u8 w3
   refine ⟨⟨n0,n1,n2.toNat,n3.toNat,by omega,by omega,by omega,by omega⟩,?_⟩
   simp [Int.toNat_of_nonneg b2.1,Int.toNat_of_nonneg b3.1]
theorem FrArg_open {H:Type} {enc:TypeId × Value→H} {W:World} {v:Value} {base:Nat} {d:DataW H} {p:List MemPlace} (hv:Value.okWide Tryz.prog W .any base 61 v)
  (h:∃ m,DataW.trod enc Tryz.prog W 0 (fun _=>true) true m 61 v.cells.toList=some (d,p)):FrArg W v:=by
 obtain⟨m,hm⟩:=h
 obtain⟨a,ha⟩:=frac_trod hm
 exact ⟨a,agg_of_cells ha (by simp)⟩
end Go.Proofs.YtejegogbhpmgfaaGreatDoor
namespace Go.Proofs.YtejegogbhpmgfaaGreatDoor
open Go.RowKit
theorem magS_shift {m:Nat} (h:0<m):magS (m*256)=magS m++⟨#[0]⟩:=by
 apply ByteArray.ext
 apply Array.toList_inj.1
 rw [magS_list,magL_pos (by omega),Nat.mul_div_cancel _ (by omega),Nat.mul_mod_left]
 rw [ByteArray.data_append,Array.toList_append,magS_list]
 rfl
theorem mgS_shift {z:Int} (h:z≠0):mgS (z*256)=mgS z++⟨#[0]⟩:=by
 unfold mgS
 rw [Int.natAbs_mul]
 exact magS_shift (by omega)
theorem sgB_shift {z:Int}:sgB (z*256)=sgB z:=by
 unfold sgB
 by_cases h:z<0
 ·have h2:z*256<0:=by omega
  simp [h,h2]
 ·have h2:¬ z*256<0:=by omega
  simp [h,h2]
theorem al_int (ev:Operand→Value) (w:World) (o:Oper) (ho:o.op = .alloc 32):(execOp ev o).run Tryz.prog w = .ok (.value (.pointer (some ⟨w.heap.size,0,none⟩))) (w.alloc (.cells #[.bool false,.string ⟨#[]⟩] 32)):=by
 unfold execOp
 simp only [ho]
 go_simp
theorem z_one (b:Bool) (s:ByteArray):(#[.bool b,.string s]:Array Value).all (·.oneCell')=true:=by kernel_rfl
theorem mgS_up {n:Int} {k:Nat} (h:n.natAbs<256 ^ 8):(mgS (n*256 ^ k)).size≤8+k:=by
 refine Fit_iff.2 ?_
 rw [Int.natAbs_mul,Int.natAbs_pow,Nat.pow_add]
 exact Nat.mul_lt_mul_of_pos_right h (Nat.pow_pos (by decide))
theorem sgB_up {z:Int} {k:Nat}:sgB (z*256 ^ k)=sgB z:=by
 induction k with
 | zero=>simp
 | succ k ih=>rw [Int.pow_succ,← Int.mul_assoc,sgB_shift,ih]
def FrA.d (a:FrA):Int:=if a.den=0 then 1 else a.den
def FrA.q (a:FrA):Rat:=Rat.divInt (a.num*256 ^ (a.up % 9)) (a.d*256 ^ (a.down % 9))
theorem rat_c (a:FrA) (w:World):Calls Tryz.prog 84 #[a.v] w fun e w'=>e = .returned (rv a.q)∧Keep [] w w':=by
 have H1:=jX (rint_c a.num a.hn.1 a.hn.2)
 have hd2 : -9223372036854775808≤a.d∧a.d≤9223372036854775807:=by have:=a.hd;unfold FrA.d;split<;>omega
 have hd0:a.d≠0:=by unfold FrA.d;split<;>omega
 have H2:=jX (rint_c a.d hd2.1 hd2.2)
 have hD:a.d=if a.den=0 then 1 else a.den:=rfl
 unfold FrA.v FrA.q
 have hn9:a.num.natAbs<256 ^ 8:=by have:=a.hn;omega
 have hd9:a.d.natAbs<256 ^ 8:=by omega
 have hu:=a.hu
 have hw:=a.hw
 generalize a.num=n at *
 generalize a.den=d0 at *
 generalize a.up=u at *
 generalize a.down=v at *
 generalize a.d=d at *
 have HD:=jX hD
 clear hD
 go_enter Tryz.func84,Tryz.ntmps84
 go_upto_region 1 with (fail)
 obtain⟨W,ga,gb,hW,ega,egb,bga,bgb,hga,hgb,hgW,hkW⟩:=al2 w (.cells #[.int .i64 n,.int .i64 d0,.int .u8 u,.int .u8 v] 61) (.cells #[.bool false,.string ⟨#[]⟩,.bool false,.string ⟨#[]⟩] 34)
 rw [← hW]
 try rw [egb]
 try rw [ega]
 have Bga:=jX bga
 have Bgb:=jX bgb
 have HkW:=jX hkW
 clear hW hkW ega egb bga bgb
 have pga:=cell_of Bga.out
 have fga:=frozen_of Bga.out
 have hz:(d0 == 0)=decide (d0=0):=rfl
 go_upto_if 11 with (fail)
 go_cut [3] (fun zv wx=>wx=W∧zv = .int .i64 d)
 case first =>
  by_cases h0:d0=0
  ·have hb:(d0 == 0)=true:=by simp [h0]
   have hdd:d=1:=by rw [HD.out,if_pos h0]
   subst h0 hdd
   go_wp2_with fail
   go_meet
   exact ⟨rfl,rfl⟩
  ·have hb:(d0 == 0)=false:=by simp [h0]
   have hdd:d=d0:=by rw [HD.out,if_neg h0]
   subst hdd
   go_wp2_with fail
   go_meet
   exact ⟨rfl,rfl⟩
 case rest =>
  obtain⟨rfl,rfl⟩:=hcut
  rename World=>W
  clear hz fga pga
  have pga:=cell_of Bga.out
  go_upto_region 4 with (fail)
  refine wp_region_lit ?_
  refine' wpList_R (v:=_) (by rfl) (?hruna) (fun K hK=>?hnexta)
  case hruna=>(go_simp;try rfl)
  go_simp
  refine hK _ _ ?_
  clear hK K
  refine' wpList_R (v:=_) (by rfl) (?hrunb) (fun K hK=>?hnextb)
  case hrunb=>(go_simp;try rfl)
  go_simp
  refine hK _ _ ?_
  clear hK K
  refine wpList_plain (by rfl) (fun K hK=>?_)
  refine wp_enter 127 #[.int .i64 n] (by go_simp) ?_
  refine (H1.out _).mono ?_
  rintro e w2 ⟨rfl,hk2⟩
  refine ⟨_,rfl,?_⟩
  go_simp
  refine hK _ _ ?_
  clear hK K
  refine' wpList_R (v:=_) (by rfl) (?hrunc) (fun K hK=>?hnextc)
  case hrunc=>(go_simp;try rfl)
  go_simp
  refine hK _ _ ?_
  clear hK K
  refine wpList_plain (by rfl) (fun K hK=>?_)
  refine wp_enter 127 #[.int .i64 d] (by go_simp) ?_
  refine (H2.out _).mono ?_
  rintro e w3 ⟨rfl,hk3⟩
  refine ⟨_,rfl,?_⟩
  go_simp
  refine hK _ _ ?_
  clear hK K pga H1 H2
  have HK3:=jX (HkW.out.trans0 (hk2.trans0 hk3))
  have Bga:=jX ((hk2.trans0 hk3).heap Bga.out (by simp))
  have Bgb:=jX ((hk2.trans0 hk3).heap Bgb.out (by simp))
  clear hk2 hk3
  unfold zv
  obtain⟨w4,gc,e1,e2,bgc,hgc,_,hk4⟩:=al1 w3 (.cells #[.bool false,.string ⟨#[]⟩] 32)
  refine wpList_K (v:=.pointer (some ⟨w3.heap.size,0,none⟩)) (w':=w3.alloc (.cells #[.bool false,.string ⟨#[]⟩] 32)) (by rfl) (al_int _ _ _ rfl) (fun K hK=>?_)
  rw [← e1,e2]
  clear e1
  go_simp
  refine hK _ _ ?_
  clear hK K
  obtain⟨w5,gd,e3,e4,bgd,hgd,_,hk5⟩:=al1 w4 (.cells #[.bool false,.string ⟨#[]⟩] 32)
  refine wpList_K (v:=.pointer (some ⟨w4.heap.size,0,none⟩)) (w':=w4.alloc (.cells #[.bool false,.string ⟨#[]⟩] 32)) (by rfl) (al_int _ _ _ rfl) (fun K hK=>?_)
  rw [← e3,e4]
  clear e3
  go_simp
  refine hK _ _ ?_
  clear hK K
  have bgc:=hk5.heap bgc (by simp)
  have hne:gc≠gd:=by have:=lt_of_heap bgc;omega
  refine wpList_rowK (by rfl) _ _ _ rfl gc #[.bool (sgB n),.string (mgS n)] rfl rfl _ _ bgc (by rfl) (by rfl) (z_one _ _) (fun K hK=>?_)
  obtain⟨w6,e5,b6,k6⟩:=setRow_at (cs:=#[.bool (sgB n),.string (mgS n)]) bgc
  rw [e5]
  go_simp
  refine hK _ _ ?_
  clear hK K e5
  have bgd:=k6.heap bgd (by simp;omega)
  refine wpList_rowK (by rfl) _ _ _ rfl gd #[.bool (sgB d),.string (mgS d)] rfl rfl _ _ bgd (by rfl) (by rfl) (z_one _ _) (fun K hK=>?_)
  obtain⟨w7,e7,b7,k7⟩:=setRow_at (cs:=#[.bool (sgB d),.string (mgS d)]) bgd
  rw [e7]
  go_simp
  refine hK _ _ ?_
  clear hK K e7
  have bgc:=k7.heap b6 (by simp;omega)
  have k35:=hk4.trans0 hk5
  have k36:Keep [] w3 w6:=k35.trans k6 (by simp;omega)
  have k37:Keep [] w3 w7:=k36.trans k7 (by simp;omega)
  have HK7:=jX (HK3.out.trans0 k37)
  have hgw:w.heap.size≤gb∧w.heap.size≤gc∧w.heap.size≤gd∧gc≠gd:=⟨by omega,by have:=HK3.out.size;omega,by have:=HK3.out.size;have:=k35.size;have:=hk4.size;omega,hne⟩
  have hga3:ga<gc∧gb<gc∧ga<gd∧gb<gd:=by have:=hk4.size;have h1:=lt_of_heap Bga.out;have h2:=lt_of_heap Bgb.out;omega
  have Bga:=jX (k37.heap Bga.out (by simp))
  have Bgb:=jX (k37.heap Bgb.out (by simp))
  have Bgc:=jX bgc
  have Bgd:=jX b7
  have Hne:=jX hne
  clear hk4 hk5 k6 k7 b6 b7 k35 k36 k37 bgc bgd HK3 hne
  go_upto_block 0 with (fail)
  go_cut [6] (fun _ wx=>wx.heap[gc]? = some (.cells #[.bool (sgB n),.string (mgS (n*256 ^ (u % 9)))] 32)∧Keep [gc] w7 wx)
  case first =>
   go_wp2_with fail
   go_loopw [6] (fun c wr=>∃ k:Nat,k≤u % 9∧c = .int .u8 (k:Int)∧wr.heap[gc]? = some (.cells #[.bool (sgB n),.string (mgS (n*256 ^ k))] 32)∧Keep [gc] w7 wr) (fun c _=>u-(intOf c).toNat)
   case atStart=>exact ⟨0,Nat.zero_le _,rfl,by simpa using Bgc.out,Keep.refl _ _⟩
   case round =>
    obtain⟨k,hk,rfl,hbc,hkeep⟩:=hrel
    have HKr:=jX hkeep
    have Bgc:=jX hbc
    have Bga:=jX (hkeep.heap Bga.out (by simp;omega))
    clear hkeep hbc
    have pga:=cell_of Bga.out
    have fga:=frozen_of Bga.out
    have pgc:=cell_of Bgc.out
    have fgc:=frozen_of Bgc.out
    have lgc:=lt_of_heap Bgc.out
    have hrem:IntKind.u8.wrap (Int.tmod (u:Int) 9)=((u % 9:Nat):Int):=by
     rw [Int.tmod_eq_emod_of_nonneg (by omega),IntWalk.u8_in _ (by omega)];omega
    by_cases hlt:k<u % 9
    ·have hk1:(k:Int)<(u:Int) % 9:=by omega
     by_cases hn0:n=0
     ·have hm:mgS (n*256 ^ k)=mgS (n*256 ^ (u % 9)):=by rw [hn0,Int.zero_mul,Int.zero_mul]
      have hm0:mgS (n*256 ^ k)=⟨#[]⟩:=by rw [hn0,Int.zero_mul];exact magS_zero
      have HF:=jX (hm ▸ Bgc.out)
      clear hm hn0
      rw [hm0] at pgc
      have hs:(ByteArray.toList ⟨#[]⟩).isEmpty=true:=by rw [Lib.toList_data];rfl
      go_wp2_with fail
      go_meet
      exact ⟨HF.out,HKr.out⟩
     ·have hne : mgS (n * 256 ^ k) ≠ ⟨#[]⟩ := fun h => by
       have h2:=magS_empty.1 (show magS (n*256 ^ k).natAbs=⟨#[]⟩ from h)
       rw [Int.natAbs_mul,Int.natAbs_pow] at h2
       have h3:=Nat.pow_pos (n:=k) (show 0<(256:Nat) by omega)
       have h4:=Nat.mul_pos (show 0<n.natAbs by omega) h3
       have:(256:Int).natAbs=256:=rfl
       rw [this] at h2
       omega
      have Hnx:Hid (mgS (n*256 ^ (k+1))=mgS (n*256 ^ k)++⟨#[0]⟩):=by
       rw [Int.pow_succ,← Int.mul_assoc]
       exact mgS_shift (fun h=>hne (by rw [h];exact magS_zero))
      have hs:(mgS (n*256 ^ k)).toList.isEmpty=false:=by
       rw [Lib.toList_data,List.isEmpty_eq_false_iff]
       exact fun h=>hne (ByteArray.ext (Array.toList_inj.1 h))
      have hsz:¬ 9223372036854775807<(mgS (n*256 ^ k)).size+1:=by
       have:=mgS_up hn9 (k:=k)
       omega
      clear hn0 hne
      generalize mgS (n*256 ^ k)=s at *
      go_wp2_with fail
      have b2:=set_same Bgc.out 1 (.string (s++⟨#[0]⟩))
      have k2:=HKr.out.trans (Keep.setCell [gc] wr gc 1 (.string (s++⟨#[0]⟩)) (by simp)) (by simp)
      go_roundw
      case rel=>exact ⟨k+1,by omega,congrArg (Value.int .u8) (by omega),by rw [Hnx.out];exact b2,k2⟩
      case measure=>simp [intOf];omega
    ·obtain rfl:k=u % 9:=by omega
     have hk1:¬ (((u % 9:Nat):Int)<(u:Int) % 9):=by omega
     have HF:=jX Bgc.out
     go_wp2_with fail
     go_meet
     exact ⟨HF.out,HKr.out⟩
  case rest =>
   obtain⟨hbc,hkc⟩:=hcut
   rename World=>w8
   have HK8:=jX (HK7.out.trans hkc (by simp;omega))
   have Bga:=jX (hkc.heap Bga.out (by simp;omega))
   have Bgb:=jX (hkc.heap Bgb.out (by simp;omega))
   have Bgd:=jX (hkc.heap Bgd.out (by simp;omega))
   have Bgc:=jX hbc
   clear hbc hkc HK7
   generalize hN:n*256 ^ (u % 9)=N at *
   go_wp2_with fail
   go_loopw [7] (fun c wr=>∃ k:Nat,k≤v % 9∧c = .int .u8 (k:Int)∧wr.heap[gd]? = some (.cells #[.bool (sgB d),.string (mgS (d*256 ^ k))] 32)∧Keep [gd] w8 wr) (fun c _=>v-(intOf c).toNat)
   case atStart=>exact ⟨0,Nat.zero_le _,rfl,by simpa using Bgd.out,Keep.refl _ _⟩
   case round =>
    obtain⟨k,hk,rfl,hbd,hkeep⟩:=hrel
    have HKr:=jX hkeep
    have Bgd:=jX hbd
    have Bga:=jX (hkeep.heap Bga.out (by simp;omega))
    have Bgb:=jX (hkeep.heap Bgb.out (by simp;omega))
    have Bgc:=jX (hkeep.heap Bgc.out (by simp;omega))
    clear hkeep hbd
    have pga:=cell_of Bga.out
    have fga:=frozen_of Bga.out
    have pgd:=cell_of Bgd.out
    have fgd:=frozen_of Bgd.out
    have lgd:=lt_of_heap Bgd.out
    by_cases hlt:k<v % 9
    ·have hk1:(k:Int)<(v:Int) % 9:=by omega
     have Hnx:Hid (mgS (d*256 ^ (k+1))=mgS (d*256 ^ k)++⟨#[0]⟩):=by
      rw [Int.pow_succ,← Int.mul_assoc]
      refine mgS_shift (fun h=>?_)
      rcases Int.mul_eq_zero.1 h with h|h
      ·exact hd0 h
      ·exact absurd h (by have:=Int.pow_pos (n:=(256:Int)) (m:=k) (by decide);omega)
     have hsz:¬ 9223372036854775807<(mgS (d*256 ^ k)).size+1:=by
      have:=mgS_up hd9 (k:=k)
      omega
     generalize mgS (d*256 ^ k)=s at *
     go_wp2_with fail
     have b2:=set_same Bgd.out 1 (.string (s++⟨#[0]⟩))
     have k2:=HKr.out.trans (Keep.setCell [gd] wr gd 1 (.string (s++⟨#[0]⟩)) (by simp)) (by simp)
     go_roundw
     case rel=>exact ⟨k+1,by omega,congrArg (Value.int .u8) (by omega),by rw [Hnx.out];exact b2,k2⟩
     case measure=>simp [intOf];omega
    ·obtain rfl:k=v % 9:=by omega
     have hk1:¬ (((v % 9:Nat):Int)<(v:Int) % 9):=by omega
     have pgb:=cell_of Bgb.out
     have fgb:=frozen_of Bgb.out
     have lgb:=lt_of_heap Bgb.out
     have pgc:=cell_of Bgc.out
     have HKz:=jX (HK8.out.trans HKr.out (by simp;omega))
     have sgn:sgB n=sgB N:=by rw [← hN];exact sgB_up.symm
     have sgd:sgB d=sgB (d*256 ^ (v % 9)):=sgB_up.symm
     generalize hD:d*256 ^ (v % 9)=D at *
     have hDn:D≠0:=by
      rw [← hD]
      exact fun h=>(Int.mul_eq_zero.1 h).elim hd0 (fun h=>absurd h (by have:=Int.pow_pos (n:=(256:Int)) (m:=v % 9) (by decide);omega))
     have hfN:Fit 100000000 N:=by
      have h:=mgS_up hn9 (k:=u % 9)
      rw [hN] at h
      exact Nat.le_trans h (by omega)
     have hfD:Fit 100000000 D:=by
      have h:=mgS_up hd9 (k:=v % 9)
      rw [hD] at h
      exact Nat.le_trans h (by omega)
     have HM:=jX (rmake_c N D hDn hfN hfD)
     unfold zv rv at HM
     have HQ:Hid (Rat.divInt (n*256 ^ (u % 9)) (d*256 ^ (v % 9))=Rat.divInt N D):=by rw [hN,hD];exact jX rfl
     clear hN hD hDn hfN hfD
     generalize Rat.divInt N D=q at *
     go_wp2_with fail
     refine (HM.out _).mono ?_
     rintro e w9 ⟨rfl,hk9⟩
     dsimp only
     have HK9:=jX (HKz.out.trans0 hk9)
     have Bgb:=jX (hk9.heap Bgb.out (by simp))
     clear hk9 pga fga pgb fgb lgb pgc pgd fgd lgd
     have pgb:=cell_of Bgb.out
     have fgb:=frozen_of Bgb.out
     have lgb:=lt_of_heap Bgb.out
     go_wp2_with fail
     obtain⟨w10,e10,b10,k10⟩:=st4 (x:=.bool (sgB q.num)) (y:=.string (mgS q.num)) (z:=.bool false) (u:=.string (dnS q.den)) Bgb.out
     rw [← e10]
     clear e10 pgb fgb lgb
     have pgb:=cell_of b10
     refine bodyPost_ret (v:=rv q) ?_ rfl ⟨by rw [HQ.out],HK9.out.trans k10 (by simp;omega)⟩
     rw [results_cell1 rfl]
     unfold rv
     go_simp
theorem Rat_c (a:FrA) (w:World):Calls Tryz.prog 40 #[a.v] w fun e w'=>e = .returned (rv a.q)∧Keep [] w w':=by
 have H:=jX (rat_c a)
 unfold FrA.v at *
 generalize a.q=q at *
 generalize a.num=n at *
 generalize a.den=d0 at *
 generalize a.up=u at *
 generalize a.down=v at *
 unfold rv at *
 go_enter Tryz.func40,Tryz.ntmps40
 go_upto_region 1 with (fail)
 obtain⟨W,ga,gb,hW,ega,egb,bga,bgb,hga,hgb,hgW,hkW⟩:=al2 w (.cells #[.int .i64 n,.int .i64 d0,.int .u8 u,.int .u8 v] 61) (.cells #[.bool false,.string ⟨#[]⟩,.bool false,.string ⟨#[]⟩] 34)
 rw [← hW]
 try rw [egb]
 try rw [ega]
 have Bga:=jX bga
 have Bgb:=jX bgb
 have HkW:=jX hkW
 clear hW hkW ega egb bga bgb
 have pga:=cell_of Bga.out
 go_wp2_with fail
 refine (H.out _).mono ?_
 rintro e w9 ⟨rfl,hk9⟩
 dsimp only
 have HK9:=jX (HkW.out.trans0 hk9)
 have Bgb:=jX (hk9.heap Bgb.out (by simp))
 clear hk9 pga
 have pgb:=cell_of Bgb.out
 have fgb:=frozen_of Bgb.out
 have lgb:=lt_of_heap Bgb.out
 go_wp2_with fail
 obtain⟨w10,e10,b10,k10⟩:=st4 (x:=.bool (sgB q.num)) (y:=.string (mgS q.num)) (z:=.bool false) (u:=.string (dnS q.den)) Bgb.out
 rw [← e10]
 clear e10 pgb fgb lgb
 have pgb:=cell_of b10
 refine bodyPost_ret (v:=.agg #[.bool (sgB q.num),.string (mgS q.num),.bool false,.string (dnS q.den)]) ?_ rfl ⟨rfl,HK9.out.trans k10 (by simp;omega)⟩
 rw [results_cell1 rfl]
 go_simp
theorem moved_c (x:Qn) (q:Rat) (hx:FitQ 20000000 x.p) (hq:FitQ 20000000 q) (w:World) :
  Calls Tryz.prog 62 #[qv x,rv q] w fun e w'=>e = .returned (qv ⟨x.p+q,x.r,x.neg⟩)∧Keep [] w w':=by
 have Hs:=jX (radd_c x.p q hx hq)
 unfold qv rv at *
 dsimp only
 generalize sgB (x.p+q).num=nr at *
 generalize mgS (x.p+q).num=sr at *
 generalize dnS (x.p+q).den=dr at *
 generalize sgB (x.p).num=a1 at *
 generalize mgS (x.p).num=a2 at *
 generalize dnS (x.p).den=a3 at *
 generalize sgB (x.r).num=a4 at *
 generalize mgS (x.r).num=a5 at *
 generalize dnS (x.r).den=a6 at *
 generalize sgB (q).num=b1 at *
 generalize mgS (q).num=b2 at *
 generalize dnS (q).den=b3 at *
 generalize x.neg=a7 at *
 clear hx hq
 go_enter Tryz.func62,Tryz.ntmps62
 go_upto_region 1 with (fail)
 obtain⟨W,ga,gb,gc,hW,ega,egb,egc,bga,bgb,bgc,hga,hgb,hgc,hgW,hkW⟩:=al3 w (.cells #[.bool a1,.string a2,.bool false,.string a3,.bool a4,.string a5,.bool false,.string a6,.bool a7] 36) (.cells #[.bool b1,.string b2,.bool false,.string b3] 34) (.cells #[.bool false,.string ⟨#[]⟩,.bool false,.string ⟨#[]⟩,.bool false,.string ⟨#[]⟩,.bool false,.string ⟨#[]⟩,.bool false] 36)
 rw [← hW]
 try rw [egc]
 try rw [egb]
 try rw [ega]
 have Bga:=jX bga
 have Bgb:=jX bgb
 have Bgc:=jX bgc
 have HkW:=jX hkW
 clear hW hkW ega egb egc bga bgb bgc
 have pga:=cell_of Bga.out
 have fga:=frozen_of Bga.out
 have lga:=lt_of_heap Bga.out
 have pgb:=cell_of Bgb.out
 have fgb:=frozen_of Bgb.out
 have lgb:=lt_of_heap Bgb.out
 go_wp2_with fail
 refine (Hs.out _).mono ?_
 rintro e wz ⟨rfl,hk_wz⟩
 dsimp only
 clear Hs pga fga lga pgb fgb lgb
 have B2ga:=jX (hk_wz.heap Bga.out (by simp))
 have B2gb:=jX (hk_wz.heap Bgb.out (by simp))
 have B2gc:=jX (hk_wz.heap Bgc.out (by simp))
 have HkW2:=jX (HkW.out.trans0 hk_wz)
 clear HkW hk_wz Bga Bgb Bgc
 have Bga:=B2ga
 have Bgb:=B2gb
 have Bgc:=B2gc
 have HkW:=HkW2
 clear HkW2 B2ga B2gb B2gc
 have pga:=cell_of Bga.out
 have fga:=frozen_of Bga.out
 have lga:=lt_of_heap Bga.out
 have pgc:=cell_of Bgc.out
 have fgc:=frozen_of Bgc.out
 have lgc:=lt_of_heap Bgc.out
 go_wp2_with fail
 refine bodyPost_ret (v:=.agg #[.bool nr,.string sr,.bool false,.string dr,.bool a4,.string a5,.bool false,.string a6,.bool a7]) ?_ rfl ⟨rfl,by repeat (first|(with_reducible exact HkW.out)|(refine Keep.setPast ?_ _ _ _ (by omega))|(refine Keep.allocPast ?_ _)|(refine Keep.drewPast ?_))⟩
 rw [results_cell1 rfl];go_simp
def MQ (W u:World) (l:List (Value × List (Iv K))) (bs:List (Nat × Obj)):Prop:=Keep [] W u∧(∀ p∈l,IvR u p.1 p.2)∧∀ b∈bs,u.heap[b.1]? = some b.2∧W.heap.size≤b.1
theorem MQ.start {W u:World} (h:Keep [] W u):MQ W u [] []:=⟨h,by simp,by simp⟩
theorem MQ.move {W u u':World} {l:List (Value × List (Iv K))} {bs:List (Nat × Obj)} (h:MQ W u l bs) (hk:Keep [] u u'):MQ W u' l bs :=
 ⟨h.1.trans0 hk,fun p hp=>(h.2.1 p hp).later hk,fun b hb=>⟨hk.heap (h.2.2 b hb).1 (by simp),(h.2.2 b hb).2⟩⟩
theorem MQ.add {W u u':World} {l:List (Value × List (Iv K))} {bs:List (Nat × Obj)} (h:MQ W u l bs) (hk:Keep [] u u') {v:Value} {m:List (Iv K)} (hv:IvR u' v m):MQ W u' ((v,m) :: l) bs:=by
 obtain⟨a1,a2,a3⟩:=h.move hk
 refine ⟨a1,fun p hp=>?_,a3⟩
 rcases List.mem_cons.1 hp with rfl|hp
 ·exact hv
 ·exact a2 p hp
theorem MQ.new' {W u:World} {l:List (Value × List (Iv K))} {bs:List (Nat × Obj)} (h:MQ W u l bs) (z:Obj):∃ u' g,u.alloc z=u'∧u.heap.size=g∧MQ W u' l ((g,z) :: bs):=by
 have hk:=Keep.alloc [] u z
 obtain⟨a1,a2,a3⟩:=h.move hk
 refine ⟨_,_,rfl,rfl,a1,a2,fun b hb=>?_⟩
 rcases List.mem_cons.1 hb with rfl|hb
 ·exact ⟨World.alloc_heap_new u z,h.1.size⟩
 ·exact a3 b hb
theorem MQ.put {W u u':World} {l:List (Value × List (Iv K))} {g:Nat} {cs:Array Value} {t:TypeId} {o:Obj} (h:MQ W u l [(g,.cells cs t)]) (hs:cs.size<20) (hb:u'.heap[g]? = some o) (hk:Keep [g] u u'):MQ W u' l [(g,o)]:=by
 obtain⟨a1,a2,a3⟩:=h
 have hg:=a3 (g,.cells cs t) (by simp)
 refine ⟨a1.trans hk (by simp;exact hg.2),fun p hp=>(a2 p hp).laterBox hg.1 hs hk,fun b hb'=>?_⟩
 simp at hb'
 subst hb'
 exact ⟨hb,hg.2⟩
theorem MQ.get {W u:World} {l:List (Value × List (Iv K))} {bs:List (Nat × Obj)} (h:MQ W u l bs) (v:Value) (m:List (Iv K)) (hm:(v,m)∈l):IvR u v m:=h.2.1 (v,m) hm
end Go.Proofs.YtejegogbhpmgfaaGreatDoor
namespace Go.Proofs.YtejegogbhpmgfaaGreatDoor
open Go.RowKit
open Classical
def mvQ (x:Qn) (q:Rat):Qn:=⟨x.p+q,x.r,x.neg⟩
noncomputable def longI (q:Rat) (i:Iv K):Bool:=decide (cmpQ (mvQ i.f.pt.1 q) i.l.pt.1≤0)
theorem filter_take {α:Type} (p:α→Bool) (l:List α) (k:Nat) (h:k<l.length):(l.take (k+1)).filter p=(l.take k).filter p++if p l[k] then [l[k]] else []:=by
 rw [List.take_succ_eq_append_getElem h,List.filter_append]
 congr 1
 by_cases hp:p l[k]<;>simp [hp]
theorem mv_fit {x:K} {q:Rat} (hq:FitQ 24 q):FitR 200000 (mvQ x.1 q):=by
 have h:=x.2.2
 exact ⟨(FitQ.add (h.1.mono (by decide:100000≤100000)) hq).mono (by decide),h.2.mono (by decide)⟩
theorem FrA.fq (a:FrA):FitQ 24 a.q:=by
 have hn9:a.num.natAbs<256 ^ 8:=by have:=a.hn;omega
 have hd9:a.d.natAbs<256 ^ 8:=by have:=a.hd;unfold FrA.d;split<;>omega
 have hd0:a.d≠0:=by unfold FrA.d;split<;>omega
 have hN:Fit 24 (a.num*256 ^ (a.up % 9)):=Nat.le_trans (mgS_up hn9) (by omega)
 have hD:Fit 24 (a.d*256 ^ (a.down % 9)):=Nat.le_trans (mgS_up hd9) (by omega)
 unfold FrA.q
 have hD0:a.d*256 ^ (a.down % 9)≠0:=fun h=>(Int.mul_eq_zero.1 h).elim hd0 (fun h=>absurd h (by have:=Int.pow_pos (n:=(256:Int)) (m:=a.down % 9) (by decide);omega))
 generalize a.num*256 ^ (a.up % 9)=N at *
 generalize a.d*256 ^ (a.down % 9)=D at *
 rcases Int.lt_trichotomy D 0 with h|h|h
 ·rw [← Rat.neg_divInt_neg]
  refine divInt_fit (Fit_iff.2 ?_) (Fit_iff.2 ?_) (by omega)
  ·rw [Int.natAbs_neg];exact Fit_iff.1 hN
  ·rw [Int.natAbs_neg];exact Fit_iff.1 hD
 ·exact absurd h hD0
 ·exact divInt_fit hN hD h
def rcells (q:Rat):List Value:=[.bool (sgB q.num),.string (mgS q.num),.bool false,.string (dnS q.den)]
def rC (q:Rat):Array Value:=(rcells q).toArray
theorem rv_cells (q:Rat):rv q = .agg (rC q):=rfl
theorem infoRat:∃ ie,Tryz.prog.info? 34=some ie∧ie.size=4:=by
 have h:(Tryz.prog.info? 34).map (·.size)=some 4:=by kernel_rfl
 cases hi:Tryz.prog.info? 34 with
 | none=>rw [hi] at h;cases h
 | some ie=>rw [hi] at h;exact ⟨ie,rfl,by simpa using h⟩
theorem load_rat {w:World} {g:Nat} {q:Rat} {t:TypeId} (h:w.heap[g]? = some (.cells (rC q) t)):(loadVar 34 ⟨g,0,none⟩).run Tryz.prog w = .ok (rv q) w:=by
 obtain⟨ie,hie,hs⟩:=infoRat
 refine Go.Lib.rl_loadVar_cells 34 ie hie Tryz.isAgg34 g 0 (rcells q) (by rw [hs];rfl) w (fun k v hk=>?_)
 rw [Nat.zero_add,cell_of h]
 exact (List.getElem?_toArray ..).trans hk
theorem kw_q {w:World} {g:Nat} {q:Rat} {t:TypeId} (h:w.heap[g]? = some (.cells (rC q) t)):∀ m:KW w,(loadVar 34 ⟨g,0,none⟩).run Tryz.prog (Wk w m) = .ok (rv q) (Wk w m) :=
 fun m=>load_rat (m.k.heap h (by simp))
theorem longer_p (l:List (Iv K)) (q:Rat) (hq:FitQ 24 q) (w:World) (sv:Value) (hr:IvR w sv l) (h9:l.length≤10000) :
  Calls Tryz.prog 86 #[sv,rv q] w fun e w'=>∃ v,e = .returned v∧IvR w' v (l.filter (longI q))∧Keep [] w w':=by
 have HR:=jX hr
 have HS:=jX (fun (x:K)=>Shift_c x.1 q (x.2.2.1.mono (by decide)) (hq.mono (by decide)))
 have HC:=jX (fun (i:Iv K)=>RCompare_c (mvQ i.f.pt.1 q) i.l.pt.1 ⟨(mv_fit hq).1.mono (by decide),(mv_fit hq).2.mono (by decide)⟩ ⟨i.l.pt.2.2.1.mono (by decide),i.l.pt.2.2.2.mono (by decide)⟩)
 obtain⟨ao,ac,rfl,_⟩:=hr.form
 clear hr hq
 rw [rv_cells] at *
 go_enter Tryz.func86,Tryz.ntmps86
 go_upto_region 1 with (fail)
 obtain⟨W,ga,hW,ega,bga,hga,hgW,hkW⟩:=al1 w (.cells (rC q) 34)
 rw [← hW]
 try rw [ega]
 have Bga:=jX bga
 have HkW:=jX hkW
 clear hW hkW ega bga
 go_wp2_with fail
 go_loopw [5,10] (fun ov c wr=>∃ k:Nat,k≤l.length∧c = .int .i64 (k:Int)∧OI_ W wr ov ((l.take k).filter (longI q))) (fun _ c _=>l.length-(intOf c).toNat)
 case atStart=>exact ⟨0,Nat.zero_le _,rfl,OE.nil W⟩
 case round =>
  obtain⟨k,hk,rfl,hov⟩:=hrel
  obtain⟨out,hout⟩:∃ out,(l.take k).filter (longI q)=out:=⟨_,rfl⟩
  rw [hout] at hov
  have Hlen:=jX (show out.length≤k by rw [← hout];exact Nat.le_trans (List.length_filter_le _ _) (by rw [List.length_take];omega))
  have Hout:=jX hout
  have HO:=jX hov
  obtain⟨oo,oc,rfl⟩:=hov.form
  clear hov hout
  by_cases hlt:k<l.length
  ·obtain⟨g,o,rfl,hg,hat⟩:=IvR.elem (HR.out.later (HkW.out.trans0 HO.out.keep)) k hlt
   have Hstep:=jX (filter_take (longI q) l k hlt)
   generalize l[k]=s at *
   obtain⟨p,hp⟩:∃ p,o+k*20=p:=⟨_,rfl⟩
   rw [hp] at hat
   have HL:=jX (load_iv wr g p s hat)
   clear hat
   go_upto_region 4 with (fail)
   refine wp_region_lit ?_
   refine' wpList_R (v:=_) (by rfl) (?hruna) (fun K hK=>?hnexta)
   case hruna=>(go_simp;try rfl)
   go_simp
   refine hK _ _ ?_
   clear hK K
   refine wpList_R (v:=iv s) (by rfl) (exec_load _ _ ⟨g,p,none⟩ _ rfl rfl HL.out) (fun K hK=>?_)
   go_simp
   refine hK _ _ ?_
   clear hK K
   obtain⟨w1,gt,e1,e2,bgt,hgt,_,hk1⟩:=al1 wr (.cells #[.bool false,.string ⟨#[]⟩,.bool false,.string ⟨#[]⟩,.bool false,.string ⟨#[]⟩,.bool false,.string ⟨#[]⟩,.bool false,.bool false,.string ⟨#[]⟩,.bool false,.string ⟨#[]⟩,.bool false,.string ⟨#[]⟩,.bool false,.string ⟨#[]⟩,.bool false,.bool false,.bool false] 49)
   refine wpList_K (v:=.pointer (some ⟨wr.heap.size,0,none⟩)) (w':=wr.alloc (.cells #[.bool false,.string ⟨#[]⟩,.bool false,.string ⟨#[]⟩,.bool false,.string ⟨#[]⟩,.bool false,.string ⟨#[]⟩,.bool false,.bool false,.string ⟨#[]⟩,.bool false,.string ⟨#[]⟩,.bool false,.string ⟨#[]⟩,.bool false,.string ⟨#[]⟩,.bool false,.bool false,.bool false] 49)) (by rfl) (al_iv _ _ _ rfl) (fun K hK=>?_)
   rw [← e1,e2]
   clear e1
   go_simp
   refine hK _ _ ?_
   clear hK K
   refine wpList_rowK (by rfl) _ _ _ rfl gt (iC s) rfl rfl _ _ bgt (by exact iv_size s) (by rfl) (iv_ones s) (fun K hK=>?_)
   obtain⟨w2,e4,b4,k4⟩:=setRow_at (cs:=iC s) bgt
   rw [e4]
   go_simp
   refine hK _ _ ?_
   clear hK K e4 HL
   have Bgt:=jX b4
   have HW2:=jX (show Keep [] wr w2 from hk1.trans k4 (by simp;omega))
   have Bga:=jX ((HO.out.keep.trans0 HW2.out).heap Bga.out (by simp))
   have HO2:=jX (HO.out.later HW2.out)
   clear b4 k4 hk1 bgt
   have HXf:=jX ((ivAt_box Bgt.out).ldf (lt_of_heap Bgt.out))
   have HXt:=jX ((ivAt_box Bgt.out).ldt (lt_of_heap Bgt.out))
   have HXq:=jX (kw_q Bga.out)
   have HLi:=jX (fun w (h:w.heap[gt]? = some (.cells (iC s) 49))=>load_iv w gt 0 s (ivAt_box h))
   have hPs:longI q s=decide (cmpQ (mvQ s.f.pt.1 q) s.l.pt.1≤0):=rfl
   rw [hPs] at Hstep
   clear hPs
   have H1:=jX (HS.out s.f.pt)
   have H2:=jX (HC.out s)
   rw [show (⟨s.f.pt.1.p+q,s.f.pt.1.r,s.f.pt.1.neg⟩:Qn)=mvQ s.f.pt.1 q from rfl] at H1
   obtain⟨M,hM⟩:∃ M,kcells (mvQ s.f.pt.1 q)=M:=⟨_,rfl⟩
   have e1:qv (mvQ s.f.pt.1 q) = .agg M.toArray:=by rw [← hM];rfl
   have e2:qv s.f.pt.1 = .agg (kC s.f.pt):=rfl
   have e3:qv s.l.pt.1 = .agg (kC s.l.pt):=rfl
   have e4:kv s.f.pt = .agg (kC s.f.pt):=rfl
   have e5:kv s.l.pt = .agg (kC s.l.pt):=rfl
   rw [e1,e2] at H1
   rw [e1,e3] at H2
   rw [e4] at HXf
   rw [e5] at HXt
   rw [rv_cells] at HXq
   clear e1 e2 e3 e4 e5 hM
   have H0:=HLi.out w2 Bgt.out
   generalize cmpQ (mvQ s.f.pt.1 q) s.l.pt.1=n at *
   generalize M.toArray=MA at *
   generalize kC s.f.pt=F at *
   generalize kC s.l.pt=L at *
   go_wp2_with fail
   have Q1:Hid (∀ m:KW w2,Calls Tryz.prog 130 #[.agg F,.agg (rC q)] (Wk w2 m) fun e w'=>e = .returned (.agg MA)∧∃ m,w'=Wk w2 m):=fun m=>qk m (H1.out _)
   have Q2:Hid (∀ m:KW w2,Calls Tryz.prog 77 #[.agg MA,.agg L] (Wk w2 m) fun e w'=>e = .returned (.int .i64 n)∧∃ m,w'=Wk w2 m):=fun m=>qk m (H2.out _)
   refine wp_region_keep (by kernel_rfl) (by kernel_rfl) ?_
   repeat (first
    | go_big_quiet_skip
    | (go_big_quiet_want;first
     | (refine quiet_load _ _ _ (.agg F) rfl rfl (by rintro _ ⟨m,rfl⟩;exact HXf.out m) ?_;go_simp;go_big_quiet_on)|(refine quiet_load _ _ _ (.agg L) rfl rfl (by rintro _ ⟨m,rfl⟩;exact HXt.out m) ?_;go_simp;go_big_quiet_on)|(refine quiet_load _ _ _ (.agg (rC q)) rfl rfl (by rintro _ ⟨m,rfl⟩;exact HXq.out m) ?_;go_simp;go_big_quiet_on)
     | (go_big_quiet_op;first|go_big_quiet_on|go_big_quiet_call (first
      | (go_at_call 130;with_reducible exact (Q1).out _)|(go_at_call 77;with_reducible exact (Q2).out _)))))
   refine wpQuiet_nil ?_
   rintro w3 ⟨⟨_,hk_w3⟩,rfl⟩
   have HW3:=jX (HW2.out.trans0 hk_w3)
   have Bgt3:=jX (hk_w3.heap Bgt.out (by simp))
   have HO3:=jX (HO2.out.later hk_w3)
   clear hk_w3 HXf HXt HXq H1 H2 Q1 Q2 H0 HO HO2 Bgt Bga
   by_cases hn:n≤0
   ·have Hst : Hid ((l.take (k + 1)).filter (longI q) = out ++ [s]) := by
     have:=Hstep.out
     rw [decide_eq_true hn,if_pos rfl] at this
     rw [this,Hout.out]
     try rfl
    clear Hstep
    go_upto_region 6 with (fail)
    refine wp_region_lit ?_
    refine' wpList_R (v:=_) (by rfl) (?hrunc) (fun K hK=>?hnextc)
    case hrunc=>(go_simp;try rfl)
    go_simp
    refine hK _ _ ?_
    clear hK K
    refine wpList_R (v:=iv s) (by rfl) (exec_load _ _ ⟨gt,0,none⟩ _ rfl rfl (HLi.out w3 Bgt3.out)) (fun K hK=>?_)
    go_simp
    refine hK _ _ ?_
    clear hK K
    obtain⟨ub,gx,e3,e4,hz1,hkx,hx⟩:=IvR.single s w3
    refine wpList_K (v:=.slice (some ⟨w3.heap.size,0,none⟩) 1 1) (by rfl) (exec_bs 27 1 #[(0,.tmp 23)] #[(0,iv s)] _ rfl (by simp only [List.map_toArray,List.map_cons,List.map_nil];rfl) (build1_i s _)) (fun K hK=>?_)
    rw [e3,e4]
    clear e3
    go_simp
    refine hK _ _ ?_
    clear hK K
    obtain⟨v4,u4,hr4,ho4,hn4,_⟩:=IvR.app (ty:=27) (HO3.out.later hkx) (.inr (by simp)) hx (by have:=Hlen.out;simp;omega)
    refine wpList_K (by rfl) (exec_app (.tmp 22) (.tmp 24) 27 _ _ _ rfl rfl rfl hr4) (fun K hK=>?_)
    go_simp
    refine hK _ _ ?_
    clear hK K hr4 hx hkx
    have HN:=jX ho4
    obtain⟨no,nc,rfl⟩:=ho4.form
    clear ho4 hn4
    go_wp2_with fail
    go_roundw
    case rel=>exact ⟨k+1,by omega,congrArg (Value.int .i64) (by omega),by rw [Hst.out];exact HN.out⟩
    case measure=>simp [intOf];omega
   ·have Hst : Hid ((l.take (k + 1)).filter (longI q) = out) := by
     have:=Hstep.out
     rw [decide_eq_false hn,if_neg (by simp),List.append_nil] at this
     rw [this,Hout.out]
     try rfl
    clear Hstep
    go_wp2_with fail
    go_roundw
    case rel=>exact ⟨k+1,by omega,congrArg (Value.int .i64) (by omega),by rw [Hst.out];exact HO3.out⟩
    case measure=>simp [intOf];omega
  ·obtain rfl:k=l.length:=by omega
   have HX:=jX (HO.out.read)
   have HK:=jX (HkW.out.trans0 HO.out.keep)
   have hF:out=l.filter (longI q):=by rw [← Hout.out,List.take_length]
   have HF:=jX hF
   clear HO Hout hF
   go_wp2_with fail
   go_ret
   exact ⟨_,rfl,by rw [← HF.out];exact HX.out,HK.out⟩
def Sm (k:Nat) (x:K):Prop:=FitR k x.1
theorem Sm.fit {k:Nat} {x:K} {q:Rat} (h:Sm k x) (hq:FitQ 24 q):FitR (k+25) (mvQ x.1 q) :=
 ⟨(FitQ.add h.1 hq).mono (by omega),h.2.mono (by omega)⟩
theorem flat_mid (a b:List (Iv K)) (s t:Iv K) (hf:t.f.beh=s.f.beh) (hl:t.l.beh=s.l.beh):setL (setL ((a++s :: b).flatMap fun i=>icells i) (a.length*20) (kcells t.f.pt.1)) (a.length*20+9) (kcells t.l.pt.1)=(a++t :: b).flatMap fun i=>icells i:=by
 have ha:(a.flatMap fun i=>icells i).length=a.length*20:=flat_len (fun i:Iv K=>icells i) icells_len a
 rw [List.flatMap_append,List.flatMap_append,List.flatMap_cons,List.flatMap_cons]
 generalize (a.flatMap fun i=>icells i)=F at *
 generalize (b.flatMap fun i=>icells i)=G at *
 have step:∀ (G vs:List Value) (j:Nat),setL (F++G) (F.length+j) vs=F++setL G j vs:=fun G vs j=>by
  unfold setL
  rw [List.take_length_add_append,Nat.add_assoc,List.drop_length_add_append,List.append_assoc,List.append_assoc,List.append_assoc]
 rw [← ha]
 have e0:setL (F++(icells s++G)) F.length (kcells t.f.pt.1)=F++setL (icells s++G) 0 (kcells t.f.pt.1):=step _ _ 0
 rw [e0,step]
 congr 1
 unfold icells
 rw [hf,hl]
 rfl
theorem OI_.setm {w0 w:World} {g n c:Nat} {a b:List (Iv K)} {s t:Iv K} (hf:t.f.beh=s.f.beh) (hl:t.l.beh=s.l.beh) (h:OI_ w0 w (.slice (some ⟨g,0,none⟩) n c) (a++s :: b)) :
  OI_ w0 ((w.setCells g (a.length*20) (kcells t.f.pt.1)).setCells g (a.length*20+9) (kcells t.l.pt.1)) (.slice (some ⟨g,0,none⟩) n c) (a++t :: b):=by
 have hr:=h.row
 have hlen:(a++s :: b).length=(a++t :: b).length:=by simp
 have hbig:a.length+1≤(a++s :: b).length:=by simp
 have hn:n=(a++s :: b).length:=by
  obtain⟨po,pc,e⟩:=h.form
  injection e
 subst hn
 rw [hlen] at *
 obtain⟨h1,k1⟩:=own_setCells hr (o:=a.length*20) (vs:=kcells t.f.pt.1) (by rw [kcells_len];omega)
 obtain⟨h2,k2⟩:=own_setCells h1 (o:=a.length*20+9) (vs:=kcells t.l.pt.1) (by rw [kcells_len];omega)
 rw [flat_mid a b s t hf hl] at h2
 have hg:=h.base g rfl
 exact ⟨h2,h.base,(h.keep.trans k1 (by simp;exact hg)).trans k2 (by simp;exact hg)⟩
section
variable {S:List K} {w0 w w' W:World} {L M:List (Value × List (Iv K))}
theorem MP.sub (h:MP S w0 w L) (hs:∀ p∈M,p∈L):MP S w0 w M:=⟨⟨h.mi.1,fun p hp=>h.mi.2 p (hs p hp)⟩,fun p hp=>h.per p (hs p hp),h.few⟩
variable {v u:Value} {a b:List (Iv K)}
end
section
variable {S:List K} {w0 w:World} {L:List (Value × List (Iv K))} {D T E U P:List (Iv K)} {da ta ea ua pa:Option Addr} {dc tc ec uc pc:Nat}
theorem MP.mfalse (h:MP S w0 w L) (hD:(.slice da D.length dc,D)∈L) (hT:(.slice ta T.length tc,T)∈L) :
  Calls Tryz.prog 19 #[.agg #[.slice da D.length dc,.slice ta T.length tc]] w (PerPost S w0 L (combK 3 D T)):=by
 have H0:=jX h
 have hD:=jX hD
 have hT:=jX hT
 clear h
 go_enter Tryz.func19,Tryz.ntmps19
 go_upto_region 1 with (fail)
 obtain⟨W,ga,hW,ega,bga,hga,hgW,hkW⟩:=al1 w (.cells #[.slice da D.length dc,.slice ta T.length tc] 29)
 rw [← hW]
 try rw [ega]
 have Bga:=jX bga
 have HkW:=jX hkW
 clear hW hkW ega bga
 have HM:=jX (H0.out.here.move HkW.out).here
 have pga:=cell_of Bga.out
 go_wp2_with fail
 refine (HM.out.minus (v:=.slice da D.length dc) (a:=D) (u:=.slice ta T.length tc) (b:=T) (by simp [hD.out,hT.out]) (by simp [hD.out,hT.out])).mono ?_
 rintro e w1 ⟨vo_w1,vc_w1,rfl,hm_w1⟩
 dsimp only
 have HM:=jX hm_w1
 clear hm_w1
 go_wp2_with fail
 go_ret
 exact ⟨_,_,rfl,⟨⟨H0.out.keep.trans0 (HkW.out.trans0 HM.out.keep),HM.out.mi.2⟩,HM.out.per,HM.out.few⟩⟩
end
section
variable {S:List K} {w0 w:World} {L:List (Value × List (Iv K))} {D T E U P:List (Iv K)} {da ta ea ua pa:Option Addr} {dc tc ec uc pc:Nat}
theorem MP.rfalse (h:MP S w0 w L) (hD:(.slice da D.length dc,D)∈L) (hT:(.slice ta T.length tc,T)∈L) :
  Calls Tryz.prog 22 #[.agg #[.slice da D.length dc,.slice ta T.length tc]] w (PerPost S w0 L (combK 3 D T)):=by
 have H0:=jX h
 have hD:=jX hD
 have hT:=jX hT
 clear h
 go_enter Tryz.func22,Tryz.ntmps22
 go_upto_region 1 with (fail)
 obtain⟨W,ga,hW,ega,bga,hga,hgW,hkW⟩:=al1 w (.cells #[.slice da D.length dc,.slice ta T.length tc] 29)
 rw [← hW]
 try rw [ega]
 have Bga:=jX bga
 have HkW:=jX hkW
 clear hW hkW ega bga
 have HM:=jX (H0.out.here.move HkW.out).here
 have pga:=cell_of (HM.out.keep.heap Bga.out (by simp))
 go_wp2_with fail
 refine (HM.out.comb (op:=3) (by simp) (v:=.slice da D.length dc) (a:=D) (u:=.slice ta T.length tc) (b:=T) (by simp [hD.out,hT.out]) (by simp [hD.out,hT.out])).mono ?_
 rintro e w1 ⟨vo_w1,vc_w1,rfl,hm_w1⟩
 dsimp only
 have HM:=jX hm_w1
 clear hm_w1
 clear pga
 go_wp2_with fail
 go_ret
 exact ⟨_,_,rfl,⟨⟨H0.out.keep.trans0 (HkW.out.trans0 HM.out.keep),HM.out.mi.2⟩,HM.out.per,HM.out.few⟩⟩
theorem MP.mnot (h:MP S w0 w L) (hD:(.slice da D.length dc,D)∈L) (hT:(.slice ta T.length tc,T)∈L) :
  Calls Tryz.prog 32 #[.agg #[.slice da D.length dc,.slice ta T.length tc]] w (BolPost S w0 L D (combK 3 D T)):=by
 have H0:=jX h
 have hD:=jX hD
 have hT:=jX hT
 clear h
 go_enter Tryz.func32,Tryz.ntmps32
 go_upto_region 1 with (fail)
 obtain⟨W,ga,gb,hW,ega,egb,bga,bgb,hga,hgb,hgW,hkW⟩:=al2 w (.cells #[.slice da D.length dc,.slice ta T.length tc] 29) (.cells #[.slice none 0 0,.slice none 0 0] 29)
 rw [← hW]
 try rw [egb]
 try rw [ega]
 have Bga:=jX bga
 have Bgb:=jX bgb
 have HkW:=jX hkW
 clear hW hkW ega egb bga bgb
 have HM:=jX (H0.out.here.move HkW.out).here
 refine wp_region_heldT (S:=fun u=>Keep [] W u) 5 (by kernel_rfl) (by kernel_rfl) (fun _ _ d _ _ h=>by cases d<;>exact h) ?_
 have HM:=jX (HM.out.move (Keep.drew [] W))
 generalize World.drew W=u at *
 have hS0:=HM.out.keep
 refine' jV (v:=_) 0 hS0 (fun w hw=>?hrunf0) (fun K hK=>?hnextf0)
 case hrunf0=>(have pga:=cell_of (hw.heap Bga.out (by simp));go_simp;try rfl)
 go_simp
 refine hK _ ?_
 clear hK K
 refine' jV (v:=_) 1 hS0 (fun w hw=>?hrunf1) (fun K hK=>?hnextf1)
 case hrunf1=>(have pga:=cell_of (hw.heap Bga.out (by simp));go_simp;try rfl)
 go_simp
 refine hK _ ?_
 clear hK K
 refine' jV (v:=_) 3 hS0 (fun w hw=>?hrunf3) (fun K hK=>?hnextf3)
 case hrunf3=>(have pga:=cell_of (hw.heap Bga.out (by simp));go_simp;try rfl)
 go_simp
 refine hK _ ?_
 clear hK K
 refine jO 2 (fun K hK=>?_)
 refine wp_enter 73 #[.slice da D.length dc] (by go_simp) ?_
 refine (HM.out.clone (v:=.slice da D.length dc) (a:=D) (by simp [hD.out,hT.out])).mono ?_
 rintro e w1 ⟨vo_w1,vc_w1,rfl,hm_w1⟩
 have HM:=jX hm_w1
 clear hm_w1
 refine ⟨_,rfl,?_⟩
 have hS0:=HM.out.keep
 go_simp
 refine hK _ _ hS0 ?_
 clear hK K
 refine jO 4 (fun K hK=>?_)
 refine wp_enter 19 #[.agg #[.slice da D.length dc,.slice ta T.length tc]] (by go_simp) ?_
 refine (HM.out.mfalse (D:=D) (T:=T) (by simp [hD.out,hT.out]) (by simp [hD.out,hT.out])).mono ?_
 rintro e w2 ⟨vo_w2,vc_w2,rfl,hm_w2⟩
 have HM:=jX hm_w2
 clear hm_w2
 refine ⟨_,rfl,?_⟩
 have hS0:=HM.out.keep
 go_simp
 refine hK _ _ hS0 ?_
 clear hK K
 refine ⟨by kernel_rfl,?_⟩
 simp only [List.drop_succ_cons,List.drop_zero]
 have bz:=jX (HM.out.keep.heap Bgb.out (by simp))
 have pgb:=cell_of bz.out
 have fgb:=frozen_of bz.out
 have lgb:=lt_of_heap bz.out
 go_wp2_with fail
 obtain⟨u9,e9,b9,k9⟩:=st2 (x:=.slice vo_w1 (D).length vc_w1) (y:=.slice vo_w2 (combK 3 D T).length vc_w2) bz.out
 rw [← e9]
 clear e9 pgb fgb lgb
 have pgb:=cell_of b9
 refine bodyPost_ret (v:=.agg #[.slice vo_w1 (D).length vc_w1,.slice vo_w2 (combK 3 D T).length vc_w2]) ?_ rfl ⟨_,_,_,_,rfl,MP.fin H0.out.keep HkW.out HM.out bz.out (by simp) (by omega) k9 ?_⟩
 ·rw [results_cell1 rfl];go_simp
 ·intro p hp;simp only [List.mem_cons] at hp ⊢;grind
end
section
variable {S:List K} {w0 w w' W:World} {L M:List (Value × List (Iv K))} {D T E U P:List (Iv K)} {da ta ea ua pa:Option Addr} {dc tc ec uc pc:Nat}
theorem len_pos {α:Type} (l:List α):decide (0<l.length)=decide (l≠[]):=by
 rw [Bool.eq_iff_iff,decide_eq_true_iff,decide_eq_true_iff,ne_eq,← List.length_eq_zero_iff];omega
theorem len_zero {α:Type} (l:List α):((l.length:Int) == 0)=decide (l=[]):=by
 rw [Bool.eq_iff_iff,beq_iff_eq,decide_eq_true_iff,← List.length_eq_zero_iff];omega
theorem MP.msome (h:MP S w0 w L) (hD:(.slice da D.length dc,D)∈L) (hT:(.slice ta T.length tc,T)∈L) :
  Calls Tryz.prog 41 #[.agg #[.slice da D.length dc,.slice ta T.length tc]] w (BoolPost S w0 L (decide (T≠[]))):=by
 have H0:=jX h
 have hD:=jX hD
 have hT:=jX hT
 clear h
 have hlen:=len_pos T
 generalize decide (T≠[])=r at *
 go_enter Tryz.func41,Tryz.ntmps41
 go_upto_region 1 with (fail)
 obtain⟨W,ga,hW,ega,bga,hga,hgW,hkW⟩:=al1 w (.cells #[.slice da D.length dc,.slice ta T.length tc] 29)
 rw [← hW]
 try rw [ega]
 have Bga:=jX bga
 have HkW:=jX hkW
 clear hW hkW ega bga
 have HM:=jX (H0.out.here.move HkW.out).here
 have pga:=cell_of (HM.out.keep.heap Bga.out (by simp))
 go_wp2_with fail
 go_ret
 exact ⟨rfl,H0.out.back HkW.out HM.out (fun p hp=>by simp [hp])⟩
theorem MP.malways (h:MP S w0 w L) (hD:(.slice da D.length dc,D)∈L) (hT:(.slice ta T.length tc,T)∈L) :
  Calls Tryz.prog 42 #[.agg #[.slice da D.length dc,.slice ta T.length tc]] w (BoolPost S w0 L (decide (combK 3 D T=[]))):=by
 have H0:=jX h
 have hD:=jX hD
 have hT:=jX hT
 clear h
 have hlen:=len_zero (combK 3 D T)
 generalize decide (combK 3 D T=[])=r at *
 go_enter Tryz.func42,Tryz.ntmps42
 go_upto_region 1 with (fail)
 obtain⟨W,ga,hW,ega,bga,hga,hgW,hkW⟩:=al1 w (.cells #[.slice da D.length dc,.slice ta T.length tc] 29)
 rw [← hW]
 try rw [ega]
 have Bga:=jX bga
 have HkW:=jX hkW
 clear hW hkW ega bga
 have HM:=jX (H0.out.here.move HkW.out).here
 have pga:=cell_of (HM.out.keep.heap Bga.out (by simp))
 go_wp2_with fail
 refine (HM.out.mfalse (D:=D) (T:=T) (by simp [hD.out,hT.out]) (by simp [hD.out,hT.out])).mono ?_
 rintro e w1 ⟨vo_w1,vc_w1,rfl,hm_w1⟩
 dsimp only
 have HM:=jX hm_w1
 clear hm_w1
 clear pga
 go_wp2_with fail
 go_ret
 exact ⟨rfl,H0.out.back HkW.out HM.out (fun p hp=>by simp [hp])⟩
end
section
variable {S:List K} {w0 w w' W:World} {L M:List (Value × List (Iv K))} {D T E U P:List (Iv K)} {da ta ea ua pa:Option Addr} {dc tc ec uc pc:Nat}
noncomputable def lastB (q:Rat) (T:List (Iv K)):Bool:=T.any fun i=>decide (sgn q≤0) || longI q i
theorem lastB_some {q:Rat} (h:sgn q≤0) (T:List (Iv K)):lastB q T=decide (T≠[]):=by
 unfold lastB
 rw [decide_eq_true h]
 cases T<;>simp
theorem lastB_long {q:Rat} (h:¬ sgn q≤0) (T:List (Iv K)):lastB q T=decide (T.filter (longI q)≠[]):=by
 unfold lastB
 rw [decide_eq_false h]
 simp only [Bool.false_or]
 rw [Bool.eq_iff_iff,List.any_eq_true,decide_eq_true_iff,ne_eq,List.filter_eq_nil_iff]
 simp
theorem MP.mlasting (h:MP S w0 w L) (hD:(.slice da D.length dc,D)∈L) (hT:(.slice ta T.length tc,T)∈L) (q:Rat) (hq:FitQ 24 q):Calls Tryz.prog 43 #[.agg #[.slice da D.length dc,.slice ta T.length tc],rv q] w (BoolPost S w0 L (lastB q T)):=by
 have HS:=jX (fun u=>QSign_c q u)
 have HT0:=jX (fun u (hk:Keep [] w u)=>longer_p T q hq u (.slice ta T.length tc) ((h.get hT).later hk) (by have:=h.len hT;omega))
 have HN:=jX (List.length_filter_le (longI q) T)
 have Hs0:=jX (fun h=>lastB_some (q:=q) h T)
 have Hl0:=jX (fun h=>lastB_long (q:=q) h T)
 have Hp:=jX (len_pos (T.filter (longI q)))
 have H0:=jX h
 have hD:=jX hD
 have hT:=jX hT
 clear h hq
 generalize T.filter (longI q)=F at *
 generalize lastB q T=R at *
 obtain⟨sg,hsg⟩:∃ x,sgn q=x:=⟨_,rfl⟩
 rw [hsg] at HS Hs0 Hl0
 obtain⟨na,hna⟩:∃ x,sgB q.num=x:=⟨_,rfl⟩
 obtain⟨sa,hsa⟩:∃ x,mgS q.num=x:=⟨_,rfl⟩
 obtain⟨dn,hdn⟩:∃ x,dnS q.den=x:=⟨_,rfl⟩
 have hrv:rv q = .agg #[.bool na,.string sa,.bool false,.string dn]:=by unfold rv;rw [hna,hsa,hdn]
 rw [hrv] at HS HT0 ⊢
 clear hrv hna hsa hdn hsg
 by_cases hle:sg≤0
 ·rw [Hs0.out hle]
  have hde:decide (sg≤0)=true:=decide_eq_true hle
  clear Hs0 Hl0 HT0 Hp
  go_enter Tryz.func43,Tryz.ntmps43
  go_upto_region 1 with (fail)
  obtain⟨W,ga,gb,hW,ega,egb,bga,bgb,hga,hgb,hgW,hkW⟩:=al2 w (.cells #[.slice da D.length dc,.slice ta T.length tc] 29) (.cells #[.bool na,.string sa,.bool false,.string dn] 34)
  rw [← hW]
  try rw [egb]
  try rw [ega]
  have Bga:=jX bga
  have Bgb:=jX bgb
  have HkW:=jX hkW
  clear hW hkW ega egb bga bgb
  have HM:=jX (H0.out.here.move HkW.out).here
  have pga:=cell_of (HM.out.keep.heap Bga.out (by simp))
  have pgb:=cell_of (HM.out.keep.heap Bgb.out (by simp))
  go_wp2_with fail
  refine (HS.out _).mono ?_
  rintro e w1 ⟨rfl,hk1⟩
  dsimp only
  have HM:=jX (HM.out.move hk1)
  clear pga pgb hk1
  have pga:=cell_of (HM.out.keep.heap Bga.out (by simp))
  have pgb:=cell_of (HM.out.keep.heap Bgb.out (by simp))
  go_wp2_with fail
  refine (HM.out.msome (D:=D) (T:=T) (by simp [hD.out]) (by simp [hT.out])).mono ?_
  rintro e w2 ⟨rfl,hm_w2⟩
  dsimp only
  have HM:=jX hm_w2
  clear hm_w2
  clear pga pgb
  go_wp2_with fail
  go_ret
  exact ⟨rfl,H0.out.back HkW.out HM.out (fun p hp=>by simp [hp])⟩
 ·rw [Hl0.out hle,← Hp.out]
  have hde:decide (sg≤0)=false:=decide_eq_false hle
  clear Hs0 Hl0 Hp
  go_enter Tryz.func43,Tryz.ntmps43
  go_upto_region 1 with (fail)
  obtain⟨W,ga,gb,hW,ega,egb,bga,bgb,hga,hgb,hgW,hkW⟩:=al2 w (.cells #[.slice da D.length dc,.slice ta T.length tc] 29) (.cells #[.bool na,.string sa,.bool false,.string dn] 34)
  rw [← hW]
  try rw [egb]
  try rw [ega]
  have Bga:=jX bga
  have Bgb:=jX bgb
  have HkW:=jX hkW
  clear hW hkW ega egb bga bgb
  have HM:=jX (H0.out.here.move HkW.out).here
  have pga:=cell_of (HM.out.keep.heap Bga.out (by simp))
  have pgb:=cell_of (HM.out.keep.heap Bgb.out (by simp))
  go_wp2_with fail
  refine (HS.out _).mono ?_
  rintro e w1 ⟨rfl,hk1⟩
  dsimp only
  have HM:=jX (HM.out.move hk1)
  clear pga pgb hk1
  have pga:=cell_of (HM.out.keep.heap Bga.out (by simp))
  have pgb:=cell_of (HM.out.keep.heap Bgb.out (by simp))
  go_wp2_with fail
  refine (HT0.out _ (HkW.out.trans0 HM.out.keep)).mono ?_
  rintro e w2 ⟨v2,rfl,hr2,hk2⟩
  obtain⟨o2,c2,rfl,_⟩:=hr2.form
  dsimp only
  have HM:=jX (HM.out.move hk2)
  clear pga pgb hk2 hr2
  go_wp2_with fail
  go_ret
  exact ⟨rfl,H0.out.back HkW.out HM.out (fun p hp=>by simp [hp])⟩
end
section
variable {S:List K} {w0 w w' W:World} {L M:List (Value × List (Iv K))} {D T E U P:List (Iv K)} {da ta ea ua pa:Option Addr} {dc tc ec uc pc:Nat}
theorem MP.rlasting (h:MP S w0 w L) (hD:(.slice da D.length dc,D)∈L) (hT:(.slice ta T.length tc,T)∈L) (q:Rat) (hq:FitQ 24 q):Calls Tryz.prog 44 #[.agg #[.slice da D.length dc,.slice ta T.length tc],rv q] w (BoolPost S w0 L (lastB q T)):=by
 have HS:=jX (fun u=>rsign_c q u)
 rw [zsgn_sgn] at HS
 have HMv:=jX (fun (x:K)=>moved_c x.1 q (x.2.2.1.mono (by decide)) (hq.mono (by decide)))
 have HCm:=jX (fun (i:Iv K)=>fcmp_c (mvQ i.f.pt.1 q) i.l.pt.1 (mv_fit hq) ⟨i.l.pt.2.2.1.mono (by decide),i.l.pt.2.2.2.mono (by decide)⟩)
 have HR:=jX (h.get hT)
 have H0:=jX h
 have hl9:=h.len hT
 clear h hD hT hq
 obtain⟨p,hp⟩:∃ p:Iv K→Bool,(fun i=>decide (sgn q≤0) || longI q i)=p:=⟨_,rfl⟩
 have HP:=jX hp
 have hlb:lastB q T=T.any p:=by unfold lastB;rw [hp]
 rw [hlb]
 clear hlb hp
 rw [rv_cells] at *
 obtain⟨sg,hsg⟩:∃ x,sgn q=x:=⟨_,rfl⟩
 rw [hsg] at HS HP
 clear hsg
 go_enter Tryz.func44,Tryz.ntmps44
 go_upto_region 1 with (fail)
 obtain⟨W,ga,gb,hW,ega,egb,bga,bgb,hga,hgb,hgW,hkW⟩:=al2 w (.cells #[.slice da D.length dc,.slice ta T.length tc] 29) (.cells (rC q) 34)
 rw [← hW]
 try rw [egb]
 try rw [ega]
 have Bga:=jX bga
 have Bgb:=jX bgb
 have HkW:=jX hkW
 clear hW hkW ega egb bga bgb
 go_wp2_with fail
 go_loopw [5] (fun c wr=>∃ k:Nat,k≤T.length∧c = .int .i64 (k:Int)∧(T.take k).any p=false∧Keep [] W wr) (fun c _=>T.length-(intOf c).toNat)
 case atStart=>exact ⟨0,Nat.zero_le _,rfl,rfl,Keep.refl _ _⟩
 case round =>
  obtain⟨k,hk,rfl,hno,hkeep⟩:=hrel
  have Hno:=jX hno
  have HKr:=jX hkeep
  have Bgar:=jX (hkeep.heap Bga.out (by simp))
  have pga:=cell_of Bgar.out
  clear hno hkeep
  by_cases hlt:k<T.length
  ·obtain⟨g,o,rfl,hg,hat⟩:=IvR.elem (HR.out.later (HkW.out.trans0 HKr.out)) k hlt
   have Hnx:=jX (any_take p T k hlt Hno.out)
   obtain⟨i,hi⟩:∃ i,T[k]=i:=⟨_,rfl⟩
   rw [hi] at Hnx hat
   have hpi:p i=(decide (sg≤0) || longI q i):=by rw [← HP.out]
   rw [hpi] at Hnx
   obtain⟨b,hb⟩:∃ b,o+k*20=b:=⟨_,rfl⟩
   rw [hb] at hat
   have Bgbr:=jX (HKr.out.heap Bgb.out (by simp))
   have kga:=kw_cells Bgar.out
   have HXf:=jX (hat.ldf hg)
   have HXt:=jX (hat.ldt hg)
   have HXq:=jX (kw_q Bgbr.out)
   have H2:=jX (HMv.out i.f.pt)
   have H3:=jX (HCm.out i)
   rw [show (⟨i.f.pt.1.p+q,i.f.pt.1.r,i.f.pt.1.neg⟩:Qn)=mvQ i.f.pt.1 q from rfl] at H2
   have hlo:longI q i=decide (cmpQ (mvQ i.f.pt.1 q) i.l.pt.1≤0):=rfl
   rw [hlo] at Hnx
   obtain⟨M,hM⟩:∃ M,kcells (mvQ i.f.pt.1 q)=M:=⟨_,rfl⟩
   have e1:qv (mvQ i.f.pt.1 q) = .agg M.toArray:=by rw [← hM];rfl
   have e2:qv i.f.pt.1 = .agg (kC i.f.pt):=rfl
   have e3:qv i.l.pt.1 = .agg (kC i.l.pt):=rfl
   have e4:kv i.f.pt = .agg (kC i.f.pt):=rfl
   have e5:kv i.l.pt = .agg (kC i.l.pt):=rfl
   rw [e1,e2] at H2
   rw [e1,e3] at H3
   rw [e4] at HXf
   rw [e5] at HXt
   rw [rv_cells] at HXq
   clear e1 e2 e3 e4 e5 hM hat hi hpi hlo
   generalize cmpQ (mvQ i.f.pt.1 q) i.l.pt.1=n at *
   generalize M.toArray=MA at *
   generalize kC i.f.pt=F at *
   generalize kC i.l.pt=G at *
   have Q1:Hid (∀ m:KW wr,Calls Tryz.prog 87 #[.agg (rC q)] (Wk wr m) fun e w'=>e = .returned (.int .i64 sg)∧∃ m,w'=Wk wr m):=fun m=>qk m (HS.out _)
   have Hlt:=jX hlt
   have hki:(k:Int)<(T.length:Int):=by omega
   have hk0:(0:Int)≤(k:Int):=by omega
   go_wp2_with fail
   by_cases hle:sg≤0
   ·have hde:decide (sg≤0)=true:=decide_eq_true hle
    have HF:Hid (T.any p=true):=any_early p T (k+1) (by rw [Hnx.out,hde];rfl)
    clear HXf HXt H2 H3 Hnx Hno
    refine wp_region_keep (by kernel_rfl) (by kernel_rfl) ?_
    repeat (first
     | go_big_quiet_skip
     | (go_big_quiet_want;first
      | (refine quiet_load _ _ _ (.agg (rC q)) rfl rfl (by rintro _ ⟨m,rfl⟩;exact HXq.out m) ?_;go_simp;go_big_quiet_on)
      | (go_big_quiet_op;first|go_big_quiet_on|go_big_quiet_call (first
       | (go_at_call 87;with_reducible exact (Q1).out _)))))
    refine wpQuiet_nil ?_
    rintro w3 ⟨⟨_,hk_w3⟩,rfl⟩
    have HKx:=jX (HKr.out.trans0 hk_w3)
    clear hk_w3 Q1 HXq
    go_wp2_with fail
    go_ret
    exact ⟨by rw [HF.out];rfl,H0.out.move (HkW.out.trans0 HKx.out)⟩
   ·have hde:decide (sg≤0)=false:=decide_eq_false hle
    have Q2:Hid (∀ m:KW wr,Calls Tryz.prog 62 #[.agg F,.agg (rC q)] (Wk wr m) fun e w'=>e = .returned (.agg MA)∧∃ m,w'=Wk wr m):=fun m=>qk m (H2.out _)
    have Q3:Hid (∀ m:KW wr,Calls Tryz.prog 38 #[.agg MA,.agg G] (Wk wr m) fun e w'=>e = .returned (.int .i64 n)∧∃ m,w'=Wk wr m):=fun m=>qk m (H3.out _)
    refine wp_region_keep (by kernel_rfl) (by kernel_rfl) ?_
    repeat (first
     | go_big_quiet_skip
     | (go_big_quiet_want;first
      | (refine quiet_load _ _ _ (.agg (rC q)) rfl rfl (by rintro _ ⟨m,rfl⟩;exact HXq.out m) ?_;go_simp;go_big_quiet_on)|(refine quiet_load _ _ _ (.agg F) rfl rfl (by rintro _ ⟨m,rfl⟩;exact HXf.out m) ?_;go_simp;go_big_quiet_on)|(refine quiet_load _ _ _ (.agg G) rfl rfl (by rintro _ ⟨m,rfl⟩;exact HXt.out m) ?_;go_simp;go_big_quiet_on)
      | (go_big_quiet_op;first|go_big_quiet_on|go_big_quiet_call (first
       | (go_at_call 87;with_reducible exact (Q1).out _)|(go_at_call 62;with_reducible exact (Q2).out _)|(go_at_call 38;with_reducible exact (Q3).out _)))))
    refine wpQuiet_nil ?_
    rintro w3 ⟨⟨_,hk_w3⟩,rfl⟩
    have HKx:=jX (HKr.out.trans0 hk_w3)
    clear hk_w3 Q1 Q2 Q3 HXq HXf HXt H2 H3 kga pga
    rw [hde,Bool.false_or] at Hnx
    by_cases hn:n≤0
    ·have HF:Hid (T.any p=true):=any_early p T (k+1) (by rw [Hnx.out];exact decide_eq_true hn)
     have hdn:decide (n≤0)=true:=decide_eq_true hn
     clear Hnx Hno
     go_wp2_with fail
     go_ret
     exact ⟨by rw [HF.out];rfl,H0.out.move (HkW.out.trans0 HKx.out)⟩
    ·have hdn:decide (n≤0)=false:=decide_eq_false hn
     rw [hdn] at Hnx
     clear Hno
     go_wp2_with fail
     go_roundw
     case rel=>exact ⟨k+1,Hlt.out,congrArg (Value.int .i64) (by omega),Hnx.out,HKx.out⟩
     case measure=>simp [intOf];have:=Hlt.out;omega
  ·have hkl:T.take k=T:=List.take_of_length_le (by omega)
   have HF:Hid (T.any p=false):=by rw [← hkl];exact Hno.out
   clear hkl Hno
   go_wp2_with fail
   go_ret
   exact ⟨by rw [HF.out];rfl,H0.out.move (HkW.out.trans0 HKr.out)⟩
end
section
variable {S:List K} {w0 w w' W:World} {L M:List (Value × List (Iv K))} {D T:List (Iv K)} {v:Value} {l:List (Iv K)} {da ta:Option Addr} {dc tc:Nat}
variable {E U:List (Iv K)} {ea ua:Option Addr} {ec uc:Nat}
variable (h:MP S w0 w L) (hD:(.slice da D.length dc,D)∈L) (hT:(.slice ta T.length tc,T)∈L)
include h hD hT
theorem MP.msomeT {q:Bool} (hq:decide (T≠[])=q):Calls Tryz.prog 41 #[.agg #[.slice da D.length dc,.slice ta T.length tc]] w (BoolPost S w0 L q):=by
 have:=h.msome hD hT
 rw [hq] at this
 exact this
theorem MP.malwaysT {q:Bool} (hq:decide (combK 3 D T=[])=q):Calls Tryz.prog 42 #[.agg #[.slice da D.length dc,.slice ta T.length tc]] w (BoolPost S w0 L q):=by
 have:=h.malways hD hT
 rw [hq] at this
 exact this
theorem MP.mlastT {x:Rat} (hx:FitQ 24 x) {q:Bool} (hq:lastB x T=q):Calls Tryz.prog 43 #[.agg #[.slice da D.length dc,.slice ta T.length tc],.agg (rC x)] w (BoolPost S w0 L q):=by
 have:=h.mlasting hD hT x hx
 rw [hq] at this
 exact this
theorem MP.rlastT {x:Rat} (hx:FitQ 24 x) {q:Bool} (hq:lastB x T=q):Calls Tryz.prog 44 #[.agg #[.slice da D.length dc,.slice ta T.length tc],.agg (rC x)] w (BoolPost S w0 L q):=by
 have:=h.rlasting hD hT x hx
 rw [hq] at this
 exact this
theorem MP.mlast0 {q:Bool} (hq:decide (T≠[])=q):Calls Tryz.prog 43 #[.agg #[.slice da D.length dc,.slice ta T.length tc],.agg #[.bool false,.string ⟨#[]⟩,.bool false,.string ⟨#[]⟩]] w (BoolPost S w0 L q):=by
 have:=h.mlasting hD hT 0 ⟨Fit_iff.2 (by decide),Fit_iff.2 (by decide)⟩
 rw [lastB_some (by decide),hq,rv_zero] at this
 exact this
end
section
variable {S:List K} {w0 w:World} {L:List (Value × List (Iv K))} {D T:List (Iv K)} {da ta:Option Addr} {dc tc:Nat}
end
structure FraC (v:Value) (q:Rat):Prop where
 form:∃ p1 p2 p3 p4,v = .agg #[.int .i64 p1,.int .i64 p2,.int .u8 p3,.int .u8 p4]
 fit:FitQ 24 q
 call:∀ u,Calls Tryz.prog 40 #[v] u fun e w'=>e = .returned (.agg (rC q))∧Keep [] u w'
theorem fraC_of {w:World} {v:Value} (h:FrArg w v):∃ q,FraC v q:=by
 obtain⟨a,rfl⟩:=h
 exact ⟨a.q,⟨_,_,_,_,rfl⟩,a.fq,fun u=>Rat_c a u⟩
theorem rc_size:(Tryz.prog.info? 34).map (·.size)=some 4:=by
 obtain⟨i,hi,hs⟩:=infoRat
 rw [hi]
 exact congrArg some hs
theorem rcells_one (q:Rat):∀ v∈rcells q,v.oneCell'=true:=by
 intro v hv
 simp only [rcells,List.mem_cons,List.not_mem_nil,or_false] at hv
 rcases hv with rfl|rfl|rfl|rfl<;>rfl
theorem movingboolLasts_c (w:World) (v0 v1:Value) (m0:MovArg w v0) (m1:FrArg w v1):Calls Tryz.prog 8 #[v0,v1] w fun e w'=>e = .returned (.bool true)∧Keep [] w w':=by
 obtain⟨l0,q0,D0,T0,c0⟩:=movC_of m0
 obtain⟨q1,C1⟩:=fraC_of m1
 have hq1:=jX C1.fit
 have hS:(l0).length≤1000:=by omega
 have C0:=c0 (l0) (by simp +contextual)
 generalize l0=S at *
 obtain⟨ao0,an0,ac0,bo0,bn0,bc0,rfl⟩:=C0.form
 have nD0:=C0.nD
 have nT0:=C0.nT
 have sT0:=C0.sub
 obtain⟨x1,x2,x3,x4,rfl⟩:=C1.form
 have HC0:=jX C0
 have HC1:=jX C1
 clear m1 C1
 clear m0 q0 c0 C0 l0
 obtain⟨s0,e0⟩:∃ q,decide (T0≠[])=q:=⟨_,rfl⟩
 obtain⟨a0,e1⟩:∃ q,decide (combK 3 D0 T0=[])=q:=⟨_,rfl⟩
 obtain⟨z0,e2⟩:∃ q,lastB q1 T0=q:=⟨_,rfl⟩
 have e3:decide (combK 3 D0 T0≠[]) = !a0:=by rw [← e1];simp
 have hl1:=len_pos T0
 have hl2:=len_zero (combK 3 D0 T0)
 rw [e0] at hl1
 rw [e1] at hl2
 have Xe0:=jX e0
 have Xe1:=jX e1
 have Xe2:=jX e2
 have Xe3:=jX e3
 clear e0 e1 e2 e3
 go_enter Tryz.func8,Tryz.ntmps8
 go_upto_region 1 with (fail)
 obtain⟨W,ga,gb,hW,ega,egb,bga,bgb,hga,hgb,hgW,hkW⟩:=al2 w (.cells #[.slice ao0 an0 ac0,.slice bo0 bn0 bc0] 24) (.cells #[.int .i64 x1,.int .i64 x2,.int .u8 x3,.int .u8 x4] 61)
 rw [← hW]
 try rw [egb]
 try rw [ega]
 have Bga:=jX bga
 have Bgb:=jX bgb
 have HkW:=jX hkW
 clear hW hkW ega egb bga bgb
 have HM:=jX (MP.start hS W)
 have HK:=jX HkW.out
 clear hS HkW
 refine wp_region_heldN (S:=fun u=>Keep [] W u) 6 [(5,29),(6,34)] (fun t=>if t=29 then .cells #[.slice none 0 0,.slice none 0 0] 29 else .cells #[.bool false,.string ⟨#[]⟩,.bool false,.string ⟨#[]⟩] 34) (by kernel_rfl) (by kernel_rfl) (by kernel_rfl) (fun t ht ev w o ho=>(by simp at ht;rcases ht with rfl|rfl<;>first|(rw [if_pos rfl];exact al_bool ev w o ho)|(rw [if_neg (by decide)];exact al_rat ev w o ho))) (fun _ _ d _ _ h=>by cases d<;>exact h) (fun _ _ d _ _ h=>by cases d<;>exact h) (fun _ _ h k=>h.trans0 k) ?_
 simp only [List.map_cons,List.map_nil,unal,isAl,if_true,if_false,Bool.false_eq_true]
 have hS0:=Keep.drew [] W
 have HM:=jX (HM.out.move hS0).here
 generalize World.drew W=u at *
 refine' jN (v:=_) 0 hS0 (fun _ _ h k=>h.trans0 k) (fun w hw=>?hrunr10) (fun K hK=>?hnextr10)
 case hrunr10=>(have pga:=cell_of (hw.heap Bga.out (by simp));go_simp;try rfl)
 go_simp
 refine hK _ ?_
 clear hK K
 refine' jN (v:=_) 2 hS0 (fun _ _ h k=>h.trans0 k) (fun w hw=>?hrunr12) (fun K hK=>?hnextr12)
 case hrunr12=>(have pgb:=cell_of (hw.heap Bgb.out (by simp));go_simp;try rfl)
 go_simp
 refine hK _ ?_
 clear hK K
 refine' jN (v:=_) 4 hS0 (fun _ _ h k=>h.trans0 k) (fun w hw=>?hrunr14) (fun K hK=>?hnextr14)
 case hrunr14=>(skip;go_simp;try rfl)
 go_simp
 refine hK _ ?_
 clear hK K
 refine' jN (v:=_) 5 hS0 (fun _ _ h k=>h.trans0 k) (fun w hw=>?hrunr15) (fun K hK=>?hnextr15)
 case hrunr15=>(skip;go_simp;try rfl)
 go_simp
 refine hK _ ?_
 clear hK K
 refine jM 1 (fun u hu K hK=>?_)
 have HM:=jX (HM.out.move hu).here
 have hS0:=hS0.trans0 hu
 clear hu
 refine wp_enter 15 #[.agg #[.slice ao0 an0 ac0,.slice bo0 bn0 bc0]] (by go_simp) ?_
 refine (HC0.out.call _ _ _ (HK.out.trans0 hS0) HM.out).mono ?_
 rintro e w1 ⟨da_w1,dc_w1,ta_w1,tc_w1,rfl,hm_w1⟩
 have hk:=hm_w1.keep
 have HM:=jX hm_w1.here
 clear hm_w1
 have hS0:=hS0.trans0 hk
 refine ⟨_,rfl,?_⟩
 go_simp
 refine hK _ _ hS0 hk ?_
 clear hK K hk
 refine jM 3 (fun u hu K hK=>?_)
 have HM:=jX (HM.out.move hu).here
 have hS0:=hS0.trans0 hu
 clear hu
 refine wp_enter 40 #[.agg #[.int .i64 x1,.int .i64 x2,.int .u8 x3,.int .u8 x4]] (by go_simp) ?_
 refine (HC1.out.call _).mono ?_
 rintro e w2 ⟨rfl,hk⟩
 have HM:=jX (HM.out.move hk).here
 have hS0:=hS0.trans0 hk
 refine ⟨_,rfl,?_⟩
 go_simp
 refine hK _ _ hS0 hk ?_
 clear hK K hk
 intro w3 hu
 have HM:=jX (HM.out.move hu).here
 have hS0:=hS0.trans0 hu
 clear hu
 refine ⟨by kernel_rfl,fun p hp1 hp2 _ hz=>?_⟩
 simp only [List.map_cons,List.map_nil,pl,List.drop_succ_cons,List.drop_zero]
 have b5:=hz (5,29) (by simp)
 have h5:=hp1 5 (by simp)
 have b6:=hz (6,34) (by simp)
 have h6:=hp1 6 (by simp)
 have n5_6:p 5≠p 6:=fun h=>absurd (hp2 5 (by simp) 6 (by simp) h) (by decide)
 dsimp only at b5 b6
 rw [if_pos rfl] at b5
 rw [if_neg (by decide)] at b6
 generalize p 5=g5 at *
 generalize p 6=g6 at *
 clear hz hp1 hp2 p
 have HM:=jX (HM.out.re hS0)
 clear hS0
 go_simp
 refine wpList_rowK (by rfl) _ _ _ rfl g5 (#[.slice da_w1 D0.length dc_w1,.slice ta_w1 T0.length tc_w1]) rfl rfl _ _ b5 (by exact b_size) (by rfl) (b_one _ _ _ _ _ _) (fun K hK=>?_)
 have o5:=b5
 clear b5
 obtain⟨w4,e5,b5,k5⟩:=setRow_at (cs:=#[.slice da_w1 D0.length dc_w1,.slice ta_w1 T0.length tc_w1]) o5
 rw [e5]
 go_simp
 refine hK _ _ ?_
 clear hK K e5
 have b6:=k5.heap b6 (by simp [n5_6,n5_6.symm])
 have HM:=jX (HM.out.put o5 (by simp) k5 h5)
 clear k5 o5
 refine wpList_rowK (by rfl) _ _ _ rfl g6 ((rC q1)) rfl rfl _ _ b6 (by exact rc_size) (by rfl) (all_oneCell_toArray (rcells_one q1)) (fun K hK=>?_)
 have o6:=b6
 clear b6
 obtain⟨w5,e6,b6,k6⟩:=setRow_at (cs:=(rC q1)) o6
 rw [e6]
 go_simp
 refine hK _ _ ?_
 clear hK K e6
 have b5:=k6.heap b5 (by simp [n5_6,n5_6.symm])
 have HM:=jX (HM.out.put o6 (by simp) k6 h6)
 clear k6 o6
 have hk:=HM.out.keep
 have HM:=jX HM.out.here
 have HK:=jX (HK.out.trans0 hk)
 have Bg5:=jX b5
 have Bg6:=jX b6
 clear hk b5 h5 b6 h6 n5_6
 clear Bga Bgb HC0 HC1
 go_upto_region 2 with (fail)
 refine wp_region_lit ?_
 have pg5:=cell_of Bg5.out
 refine' wpList_R (v:=_) (by rfl) (?hrunr2x0) (fun K hK=>?hnextr2x0)
 case hrunr2x0=>(go_simp;try rfl)
 go_simp
 refine hK _ _ ?_
 clear hK K
 clear pg5
 refine wpList_plain (by rfl) (fun K hK=>?_)
 refine wp_enter 41 #[.agg #[.slice da_w1 D0.length dc_w1,.slice ta_w1 T0.length tc_w1]] (by go_simp) ?_
 refine (HM.out.msomeT (ma 0 rfl) (ma 1 rfl) Xe0.out).mono ?_
 rintro e w6 ⟨rfl,hm⟩
 have hk:=hm.keep
 have HM:=jX hm.here
 have HK:=jX (HK.out.trans0 hk)
 have Bg5:=jX (hk.heap Bg5.out (by simp))
 have Bg6:=jX (hk.heap Bg6.out (by simp))
 clear hm hk
 refine ⟨_,rfl,?_⟩
 go_simp
 refine hK _ _ ?_
 clear hK K
 refine' wpList_R (v:=_) (by rfl) (?hrunr2x2) (fun K hK=>?hnextr2x2)
 case hrunr2x2=>(go_simp;try rfl)
 go_simp
 refine hK _ _ ?_
 clear hK K
 go_upto_region 3 with (fail)
 refine wp_region_heldT (S:=fun u=>Keep [] w6 u) 43 (by kernel_rfl) (by kernel_rfl) (fun _ _ d _ _ h=>by cases d<;>exact h) ?_
 have hS0:=Keep.drew [] w6
 have HM:=jX (HM.out.move hS0).here
 generalize World.drew w6=u at *
 refine jP 0 (fun K hK=>?_)
 refine wp_enter 20 #[] (by go_simp) ?_
 refine (known12_c _).mono ?_
 rintro e w7 ⟨rfl,hk⟩
 have HM:=jX (HM.out.move hk).here
 have hS0:=hS0.trans0 hk
 refine ⟨_,rfl,?_⟩
 go_simp
 refine hK _ _ hS0 ?_
 clear hK K hk
 refine' jG (v:=_) 1 hS0 (fun w hw=>?hrunr31) (fun K hK=>?hnextr31)
 case hrunr31=>(skip;go_simp;try rfl)
 go_simp
 refine hK _ ?_
 clear hK K
 refine' jG (v:=_) 2 hS0 (fun w hw=>?hrunr32) (fun K hK=>?hnextr32)
 case hrunr32=>(skip;go_simp;try rfl)
 go_simp
 refine hK _ ?_
 clear hK K
 refine' jG (v:=_) 3 hS0 (fun w hw=>?hrunr33) (fun K hK=>?hnextr33)
 case hrunr33=>(skip;go_simp;try rfl)
 go_simp
 refine hK _ ?_
 clear hK K
 refine' jG (v:=_) 4 hS0 (fun w hw=>?hrunr34) (fun K hK=>?hnextr34)
 case hrunr34=>(have pg5:=cell_of (hw.heap Bg5.out (by simp));go_simp;try rfl)
 go_simp
 refine hK _ ?_
 clear hK K
 refine' jG (v:=_) 5 hS0 (fun w hw=>?hrunr35) (fun K hK=>?hnextr35)
 case hrunr35=>(skip;go_simp;try rfl)
 go_simp
 refine hK _ ?_
 clear hK K
 refine' jG (v:=_) 6 hS0 (fun w hw=>?hrunr36) (fun K hK=>?hnextr36)
 case hrunr36=>(skip;go_simp;try rfl)
 go_simp
 refine hK _ ?_
 clear hK K
 refine' jG (v:=_) 7 hS0 (fun w hw=>?hrunr37) (fun K hK=>?hnextr37)
 case hrunr37=>(skip;go_simp;try rfl)
 go_simp
 refine hK _ ?_
 clear hK K
 refine' jG (v:=_) 8 hS0 (fun w hw=>?hrunr38) (fun K hK=>?hnextr38)
 case hrunr38=>(skip;go_simp;try rfl)
 go_simp
 refine hK _ ?_
 clear hK K
 refine' jG (v:=_) 9 hS0 (fun w hw=>?hrunr39) (fun K hK=>?hnextr39)
 case hrunr39=>(skip;go_simp;try rfl)
 go_simp
 refine hK _ ?_
 clear hK K
 refine' jG (v:=_) 10 hS0 (fun w hw=>?hrunr310) (fun K hK=>?hnextr310)
 case hrunr310=>(have pg5:=cell_of (hw.heap Bg5.out (by simp));go_simp;try rfl)
 go_simp
 refine hK _ ?_
 clear hK K
 refine' jG (v:=_) 12 hS0 (fun w hw=>?hrunr312) (fun K hK=>?hnextr312)
 case hrunr312=>(have pg5:=cell_of (hw.heap Bg5.out (by simp));go_simp;try rfl)
 go_simp
 refine hK _ ?_
 clear hK K
 refine jP 11 (fun K hK=>?_)
 refine wp_enter 42 #[.agg #[.slice da_w1 D0.length dc_w1,.slice ta_w1 T0.length tc_w1]] (by go_simp) ?_
 refine (HM.out.malwaysT (ma 0 rfl) (ma 1 rfl) Xe1.out).mono ?_
 rintro e w8 ⟨rfl,hm_w8⟩
 have hk:=hm_w8.keep
 have HM:=jX hm_w8.here
 clear hm_w8
 have hS0:=hS0.trans0 hk
 refine ⟨_,rfl,?_⟩
 go_simp
 refine hK _ _ hS0 ?_
 clear hK K hk
 refine jP 13 (fun K hK=>?_)
 refine wp_enter 22 #[.agg #[.slice da_w1 D0.length dc_w1,.slice ta_w1 T0.length tc_w1]] (by go_simp) ?_
 refine (HM.out.rfalse (ma 0 rfl) (ma 1 rfl)).mono ?_
 rintro e w9 ⟨vo_w9,vc_w9,rfl,hm_w9⟩
 have hk:=hm_w9.keep
 have HM:=jX hm_w9.here
 clear hm_w9
 have hS0:=hS0.trans0 hk
 refine ⟨_,rfl,?_⟩
 go_simp
 refine hK _ _ hS0 ?_
 clear hK K hk
 refine' jG (v:=_) 14 hS0 (fun w hw=>?hrunr314) (fun K hK=>?hnextr314)
 case hrunr314=>(skip;go_simp;try rfl)
 go_simp
 refine hK _ ?_
 clear hK K
 refine' jG (v:=_) 15 hS0 (fun w hw=>?hrunr315) (fun K hK=>?hnextr315)
 case hrunr315=>(skip;go_simp;try rfl)
 go_simp
 refine hK _ ?_
 clear hK K
 refine' jG (v:=_) 16 hS0 (fun w hw=>?hrunr316) (fun K hK=>?hnextr316)
 case hrunr316=>(skip;go_simp;try rfl)
 go_simp
 refine hK _ ?_
 clear hK K
 refine' jG (v:=_) 17 hS0 (fun w hw=>?hrunr317) (fun K hK=>?hnextr317)
 case hrunr317=>(skip;go_simp;try rfl)
 go_simp
 refine hK _ ?_
 clear hK K
 refine' jG (v:=_) 18 hS0 (fun w hw=>?hrunr318) (fun K hK=>?hnextr318)
 case hrunr318=>(skip;go_simp;try rfl)
 go_simp
 refine hK _ ?_
 clear hK K
 refine' jG (v:=_) 19 hS0 (fun w hw=>?hrunr319) (fun K hK=>?hnextr319)
 case hrunr319=>(have pg5:=cell_of (hw.heap Bg5.out (by simp));go_simp;try rfl)
 go_simp
 refine hK _ ?_
 clear hK K
 refine' jG (v:=_) 21 hS0 (fun w hw=>?hrunr321) (fun K hK=>?hnextr321)
 case hrunr321=>(have pg5:=cell_of (hw.heap Bg5.out (by simp));go_simp;try rfl)
 go_simp
 refine hK _ ?_
 clear hK K
 refine jP 20 (fun K hK=>?_)
 refine wp_enter 42 #[.agg #[.slice da_w1 D0.length dc_w1,.slice ta_w1 T0.length tc_w1]] (by go_simp) ?_
 refine (HM.out.malwaysT (ma 1 rfl) (ma 2 rfl) Xe1.out).mono ?_
 rintro e w10 ⟨rfl,hm_w10⟩
 have hk:=hm_w10.keep
 have HM:=jX hm_w10.here
 clear hm_w10
 have hS0:=hS0.trans0 hk
 refine ⟨_,rfl,?_⟩
 go_simp
 refine hK _ _ hS0 ?_
 clear hK K hk
 refine jP 22 (fun K hK=>?_)
 refine wp_enter 32 #[.agg #[.slice da_w1 D0.length dc_w1,.slice ta_w1 T0.length tc_w1]] (by go_simp) ?_
 refine (HM.out.mnot (ma 1 rfl) (ma 2 rfl)).mono ?_
 rintro e w11 ⟨da_w11,dc_w11,ta_w11,tc_w11,rfl,hm_w11⟩
 have hk:=hm_w11.keep
 have HM:=jX hm_w11.here
 clear hm_w11
 have hS0:=hS0.trans0 hk
 refine ⟨_,rfl,?_⟩
 go_simp
 refine hK _ _ hS0 ?_
 clear hK K hk
 refine jP 23 (fun K hK=>?_)
 refine wp_enter 41 #[.agg #[.slice da_w11 D0.length dc_w11,.slice ta_w11 (combK 3 D0 T0).length tc_w11]] (by go_simp) ?_
 refine (HM.out.msomeT (ma 0 rfl) (ma 1 rfl) Xe3.out).mono ?_
 rintro e w12 ⟨rfl,hm_w12⟩
 have hk:=hm_w12.keep
 have HM:=jX hm_w12.here
 clear hm_w12
 have hS0:=hS0.trans0 hk
 refine ⟨_,rfl,?_⟩
 go_simp
 refine hK _ _ hS0 ?_
 clear hK K hk
 refine' jG (v:=_) 24 hS0 (fun w hw=>?hrunr324) (fun K hK=>?hnextr324)
 case hrunr324=>(skip;go_simp;try rfl)
 go_simp
 refine hK _ ?_
 clear hK K
 refine' jG (v:=_) 25 hS0 (fun w hw=>?hrunr325) (fun K hK=>?hnextr325)
 case hrunr325=>(skip;go_simp;try rfl)
 go_simp
 refine hK _ ?_
 clear hK K
 refine' jG (v:=_) 26 hS0 (fun w hw=>?hrunr326) (fun K hK=>?hnextr326)
 case hrunr326=>(skip;go_simp;try rfl)
 go_simp
 refine hK _ ?_
 clear hK K
 refine' jG (v:=_) 27 hS0 (fun w hw=>?hrunr327) (fun K hK=>?hnextr327)
 case hrunr327=>(skip;go_simp;try rfl)
 go_simp
 refine hK _ ?_
 clear hK K
 refine' jG (v:=_) 28 hS0 (fun w hw=>?hrunr328) (fun K hK=>?hnextr328)
 case hrunr328=>(have pg5:=cell_of (hw.heap Bg5.out (by simp));go_simp;try rfl)
 go_simp
 refine hK _ ?_
 clear hK K
 refine jG (v:=.agg (rC q1)) 29 hS0 (fun w hw=>exec_load _ _ ⟨g6,0,none⟩ _ rfl rfl (load_rat (hw.heap Bg6.out (by simp)))) (fun K hK=>?_)
 go_simp
 refine hK _ ?_
 clear hK K
 refine' jG (v:=_) 31 hS0 (fun w hw=>?hrunr331) (fun K hK=>?hnextr331)
 case hrunr331=>(have pg5:=cell_of (hw.heap Bg5.out (by simp));go_simp;try rfl)
 go_simp
 refine hK _ ?_
 clear hK K
 refine jG (v:=.agg (rC q1)) 32 hS0 (fun w hw=>exec_load _ _ ⟨g6,0,none⟩ _ rfl rfl (load_rat (hw.heap Bg6.out (by simp)))) (fun K hK=>?_)
 go_simp
 refine hK _ ?_
 clear hK K
 refine jP 30 (fun K hK=>?_)
 refine wp_enter 43 #[.agg #[.slice da_w1 D0.length dc_w1,.slice ta_w1 T0.length tc_w1],.agg (rC q1)] (by go_simp) ?_
 refine (HM.out.mlastT (ma 3 rfl) (ma 4 rfl) hq1.out Xe2.out).mono ?_
 rintro e w13 ⟨rfl,hm_w13⟩
 have hk:=hm_w13.keep
 have HM:=jX hm_w13.here
 clear hm_w13
 have hS0:=hS0.trans0 hk
 refine ⟨_,rfl,?_⟩
 go_simp
 refine hK _ _ hS0 ?_
 clear hK K hk
 refine jP 33 (fun K hK=>?_)
 refine wp_enter 44 #[.agg #[.slice da_w1 D0.length dc_w1,.slice ta_w1 T0.length tc_w1],.agg (rC q1)] (by go_simp) ?_
 refine (HM.out.rlastT (ma 3 rfl) (ma 4 rfl) hq1.out Xe2.out).mono ?_
 rintro e w14 ⟨rfl,hm_w14⟩
 have hk:=hm_w14.keep
 have HM:=jX hm_w14.here
 clear hm_w14
 have hS0:=hS0.trans0 hk
 refine ⟨_,rfl,?_⟩
 go_simp
 refine hK _ _ hS0 ?_
 clear hK K hk
 refine' jG (v:=_) 34 hS0 (fun w hw=>?hrunr334) (fun K hK=>?hnextr334)
 case hrunr334=>(skip;go_simp;try rfl)
 go_simp
 refine hK _ ?_
 clear hK K
 refine' jG (v:=_) 35 hS0 (fun w hw=>?hrunr335) (fun K hK=>?hnextr335)
 case hrunr335=>(skip;go_simp;try rfl)
 go_simp
 refine hK _ ?_
 clear hK K
 refine' jG (v:=_) 36 hS0 (fun w hw=>?hrunr336) (fun K hK=>?hnextr336)
 case hrunr336=>(skip;go_simp;try rfl)
 go_simp
 refine hK _ ?_
 clear hK K
 refine' jG (v:=_) 37 hS0 (fun w hw=>?hrunr337) (fun K hK=>?hnextr337)
 case hrunr337=>(have pg5:=cell_of (hw.heap Bg5.out (by simp));go_simp;try rfl)
 go_simp
 refine hK _ ?_
 clear hK K
 refine' jG (v:=_) 38 hS0 (fun w hw=>?hrunr338) (fun K hK=>?hnextr338)
 case hrunr338=>(skip;go_simp;try rfl)
 go_simp
 refine hK _ ?_
 clear hK K
 refine' jG (v:=_) 40 hS0 (fun w hw=>?hrunr340) (fun K hK=>?hnextr340)
 case hrunr340=>(skip;go_simp;try rfl)
 go_simp
 refine hK _ ?_
 clear hK K
 refine jP 39 (fun K hK=>?_)
 refine wp_enter 43 #[.agg #[.slice da_w1 D0.length dc_w1,.slice ta_w1 T0.length tc_w1],.agg #[.bool false,.string ⟨#[]⟩,.bool false,.string ⟨#[]⟩]] (by go_simp) ?_
 refine (HM.out.mlast0 (ma 3 rfl) (ma 4 rfl) Xe0.out).mono ?_
 rintro e w15 ⟨rfl,hm_w15⟩
 have hk:=hm_w15.keep
 have HM:=jX hm_w15.here
 clear hm_w15
 have hS0:=hS0.trans0 hk
 refine ⟨_,rfl,?_⟩
 go_simp
 refine hK _ _ hS0 ?_
 clear hK K hk
 refine' jG (v:=_) 41 hS0 (fun w hw=>?hrunr341) (fun K hK=>?hnextr341)
 case hrunr341=>(skip;go_simp;try rfl)
 go_simp
 refine hK _ ?_
 clear hK K
 refine' jG (v:=_) 42 hS0 (fun w hw=>?hrunr342) (fun K hK=>?hnextr342)
 case hrunr342=>(skip;go_simp;try rfl)
 go_simp
 refine hK _ ?_
 clear hK K
 refine ⟨by kernel_rfl,?_⟩
 simp only [List.drop_succ_cons,List.drop_zero]
 have HK:=jX (HK.out.trans0 hS0)
 have Bg5:=jX (hS0.heap Bg5.out (by simp))
 have Bg6:=jX (hS0.heap Bg6.out (by simp))
 clear hS0
 go_wp2_with fail
 go_ret
 exact ⟨rfl,HK.out⟩
end Go.Proofs.YtejegogbhpmgfaaGreatDoor
