/- Parts of a proof: Tk Va Vd Ve Ua Th. -/
import Derived.Deep.Slices
import Derived.Lib.SmallJoins
import Derived.IntWalk
import Derived.Shelf.SlSortCmp.WholeK
import Derived.Test.YtpgffjjpiafhpaaGreatDoorJ24
import Derived.Test.YtpgffjjpiafhpaaGreatDoorJ23
import Derived.Test.YtpgffjjpiafhpaaGreatDoorJ18
import Derived.Test.YtpgffjjpiafhpaaGreatDoorJ22
import Derived.Test.YtpgffjjpiafhpaaGreatDoorJ17
set_option linter.unusedVariables false
set_option linter.unusedSimpArgs false
set_option maxRecDepth 100000
set_option maxHeartbeats 8000000
namespace Go.Proofs.YtpgffjjpiafhpaaGreatDoor
open Go.RowKit Tryz
def ybm (s:SpanA):List Value:=[.int .u8 s.a.P,.int .u8 s.a.D,.int .u8 s.a.R,.int .u8 s.a.E,.bool s.a.neg,.int .u8 s.b.P,.int .u8 s.b.D,.int .u8 s.b.R,.int .u8 s.b.E,.bool s.b.neg,.bool s.oa,.bool s.ob]
theorem yhx (s:SpanA):(ybm s).length=12:=rfl
abbrev SpR:=RowE (fun s:SpanA=>ybm s)
theorem infoSpan:∃ ie,prog.info? 40=some ie∧ie.size=12:=by
 have h:(prog.info? 40).map (·.size)=some 12:=by kernel_rfl
 cases hi:prog.info? 40 with
 | none=>rw [hi] at h;cases h
 | some ie=>rw [hi] at h;exact ⟨ie,rfl,by simpa using h⟩
theorem load_span (w:World) (b o:Nat) (s:SpanA) (hc:∀ k v,(ybm s)[k]? = some v→w.cell? ⟨b,o+k,none⟩=some v):(loadVar 40 ⟨b,o,none⟩).run prog w = .ok s.v w:=by
 obtain⟨ie,hie,hs⟩:=infoSpan;exact Go.Lib.rl_loadVar_cells 40 ie hie isAgg40 b o (ybm s) (by rw [hs];rfl) w hc
theorem SpR.elem {w:World} {a:Option Addr} {n c:Nat} {l:List SpanA} (h:SpR w (.slice a n c) l) (i:Nat) (hi:i<l.length):∃ g o,a=some ⟨g,o,none⟩∧g<w.heap.size∧∀ j v,(ybm l[i])[j]? = some v→w.cell? ⟨g,o+i*12+j,none⟩=some v:=RowE.elem yhx h i hi
def SpQ (w:World) (v:Value) (l:List SpanA):Prop:=∃ (a:Option Addr) (c:Nat),v = .slice a l.length c∧(l=[]∨SpR w v l)
theorem SpQ.elem {w:World} {a:Option Addr} {n c:Nat} {l:List SpanA} (h:SpQ w (.slice a n c) l) (i:Nat) (hi:i<l.length):∃ g o,a=some ⟨g,o,none⟩∧g<w.heap.size∧∀ j v,(ybm l[i])[j]? = some v→w.cell? ⟨g,o+i*12+j,none⟩=some v:=by
 obtain⟨_,_,_,h|h⟩:=h
 ·subst h;simp at hi
 exact SpR.elem h i hi
theorem SpQ.later {w w':World} {v:Value} {l:List SpanA} (h:SpQ w v l) (hk:Keep [] w w'):SpQ w' v l:=by
 obtain⟨a,c,h1,h2⟩:=h;exact ⟨a,c,h1,h2.imp id (fun h=>h.later hk)⟩
section
open Go.ChangeShapes Go.WideShapes Go.ChangeAt
theorem cells_u8:prog.cellsOf 5=1:=by kernel_rfl
theorem cells_bool:prog.cellsOf 4=1:=by kernel_rfl
theorem cells_Ins:prog.cellsOf 38=5:=by kernel_rfl
theorem cells_Span:prog.cellsOf 40=12:=by kernel_rfl
def InsA.cs (a:InsA):List Value:=[.int .u8 a.P,.int .u8 a.D,.int .u8 a.R,.int .u8 a.E,.bool a.neg]
section
variable {H:Type} {enc:TypeId × Value→H} {w:World} {base:Nat} {held:Bool} {fuel:Nat}
theorem yih {cs:List Value} {x:DataW H × List MemPlace} (h:DataW.trod enc prog w base (fun _=>true) held fuel 38 cs=some x):∃ a:InsA,cs=a.cs:=by
 obtain⟨xs,n,_,rfl,hl,hlen,hf⟩:=DataW.trod_struct underlying38 h;rw [cells_Ins] at hl
 match cs,hl with
 | [c0,c1,c2,c3,c4],_ =>
  match xs,hlen with
  | [x0,x1,x2,x3,x4],_ =>
   have h0:DataW.trod enc prog w base (fun _=>true) held n 5 (([c0,c1,c2,c3,c4].drop 0).take (prog.cellsOf 5))=some x0:=hf 0 _ rfl;have h1:DataW.trod enc prog w base (fun _=>true) held n 5 (([c0,c1,c2,c3,c4].drop 1).take (prog.cellsOf 5))=some x1:=hf 1 _ rfl;have h2:DataW.trod enc prog w base (fun _=>true) held n 5 (([c0,c1,c2,c3,c4].drop 2).take (prog.cellsOf 5))=some x2:=hf 2 _ rfl;have h3:DataW.trod enc prog w base (fun _=>true) held n 5 (([c0,c1,c2,c3,c4].drop 3).take (prog.cellsOf 5))=some x3:=hf 3 _ rfl;have h4:DataW.trod enc prog w base (fun _=>true) held n 4 (([c0,c1,c2,c3,c4].drop 4).take (prog.cellsOf 4))=some x4:=hf 4 _ rfl;rw [cells_u8] at h0 h1 h2 h3;rw [cells_bool] at h4;obtain⟨n0,e0,_,w0⟩:=DataW.trod_int underlying5 h0;obtain⟨n1,e1,_,w1⟩:=DataW.trod_int underlying5 h1;obtain⟨n2,e2,_,w2⟩:=DataW.trod_int underlying5 h2;obtain⟨n3,e3,_,w3⟩:=DataW.trod_int underlying5 h3;obtain⟨n4,e4,_⟩:=DataW.trod_bool underlying4 h4;simp at e0 e1 e2 e3 e4;subst e0 e1 e2 e3 e4;have b0:=bounds_u8 w0;have b1:=bounds_u8 w1;have b2:=bounds_u8 w2;have b3:=bounds_u8 w3;refine ⟨⟨n0.toNat,n1.toNat,n2.toNat,n3.toNat,n4,by omega,by omega,by omega,by omega⟩,?_⟩;simp [InsA.cs,Int.toNat_of_nonneg b0.1,Int.toNat_of_nonneg b1.1,Int.toNat_of_nonneg b2.1,Int.toNat_of_nonneg b3.1]
theorem span_trod {cs:List Value} {x:DataW H × List MemPlace} (h:DataW.trod enc prog w base (fun _=>true) held fuel 40 cs=some x):∃ s:SpanA,cs=ybm s:=by
 obtain⟨xs,n,_,rfl,hl,hlen,hf⟩:=DataW.trod_struct underlying40 h;rw [cells_Span] at hl
 match cs,hl with
 | [c0,c1,c2,c3,c4,c5,c6,c7,c8,c9,c10,c11],_ =>
  match xs,hlen with
  | [x0,x1,x2,x3],_ =>
   have h0:DataW.trod enc prog w base (fun _=>true) held n 38 (([c0,c1,c2,c3,c4,c5,c6,c7,c8,c9,c10,c11].drop 0).take (prog.cellsOf 38))=some x0:=hf 0 _ rfl;have h1:DataW.trod enc prog w base (fun _=>true) held n 38 (([c0,c1,c2,c3,c4,c5,c6,c7,c8,c9,c10,c11].drop 5).take (prog.cellsOf 38))=some x1:=hf 1 _ rfl;have h2:DataW.trod enc prog w base (fun _=>true) held n 4 (([c0,c1,c2,c3,c4,c5,c6,c7,c8,c9,c10,c11].drop 10).take (prog.cellsOf 4))=some x2:=hf 2 _ rfl;have h3:DataW.trod enc prog w base (fun _=>true) held n 4 (([c0,c1,c2,c3,c4,c5,c6,c7,c8,c9,c10,c11].drop 11).take (prog.cellsOf 4))=some x3:=hf 3 _ rfl;rw [cells_Ins] at h0 h1;rw [cells_bool] at h2 h3;obtain⟨a,e0⟩:=yih h0;obtain⟨b,e1⟩:=yih h1;obtain⟨o,e2,_⟩:=DataW.trod_bool underlying4 h2;obtain⟨c,e3,_⟩:=DataW.trod_bool underlying4 h3;refine ⟨⟨a,b,o,c⟩,?_⟩;simp [InsA.cs] at e0 e1 e2 e3;simp [ybm,e0,e1,e2,e3]
end
end
section
open Go.ChangeShapes Go.WideShapes Go.ChangeAt
theorem yen {v:Value} {l:List Value} (h:v.cells.toList=l) (hl:l.length≠1):v = .agg l.toArray:=by
 cases v with
 | agg c=>subst h;simp [Value.cells]
 | _=>subst h;exact absurd rfl hl
structure FrA where
 num:Int
 den:Int
 up:Nat
 down:Nat
 hn : -9223372036854775808≤num∧num≤9223372036854775807
 hd : -9223372036854775808≤den∧den≤9223372036854775807
 hu:up≤255
 hw:down≤255
def FrA.v (a:FrA):Value:=.agg #[.int .i64 a.num,.int .i64 a.den,.int .u8 a.up,.int .u8 a.down]
def FrArg (_:World) (v:Value):Prop:=∃ a:FrA,v=a.v
theorem cells_int:prog.cellsOf 3=1:=by kernel_rfl
theorem cells_Frac:prog.cellsOf 42=4:=by kernel_rfl
theorem frac_trod {H:Type} {enc:TypeId × Value→H} {w:World} {base:Nat} {held:Bool} {fuel:Nat} {cs:List Value} {x:DataW H × List MemPlace} (h:DataW.trod enc prog w base (fun _=>true) held fuel 42 cs=some x):∃ a:FrA,cs=[.int .i64 a.num,.int .i64 a.den,.int .u8 a.up,.int .u8 a.down]:=by
 obtain⟨xs,n,_,rfl,hl,hlen,hf⟩:=DataW.trod_struct underlying42 h;rw [cells_Frac] at hl
 match cs,hl with
 | [c0,c1,c2,c3],_ =>
  match xs,hlen with
  | [x0,x1,x2,x3],_ =>
   have h0:DataW.trod enc prog w base (fun _=>true) held n 3 (([c0,c1,c2,c3].drop 0).take (prog.cellsOf 3))=some x0:=hf 0 _ rfl;have h1:DataW.trod enc prog w base (fun _=>true) held n 3 (([c0,c1,c2,c3].drop 1).take (prog.cellsOf 3))=some x1:=hf 1 _ rfl;have h2:DataW.trod enc prog w base (fun _=>true) held n 5 (([c0,c1,c2,c3].drop 2).take (prog.cellsOf 5))=some x2:=hf 2 _ rfl;have h3:DataW.trod enc prog w base (fun _=>true) held n 5 (([c0,c1,c2,c3].drop 3).take (prog.cellsOf 5))=some x3:=hf 3 _ rfl;rw [cells_int] at h0 h1;rw [cells_u8] at h2 h3;obtain⟨n0,e0,_,w0⟩:=DataW.trod_int underlying3 h0;obtain⟨n1,e1,_,w1⟩:=DataW.trod_int underlying3 h1;obtain⟨n2,e2,_,w2⟩:=DataW.trod_int underlying5 h2;obtain⟨n3,e3,_,w3⟩:=DataW.trod_int underlying5 h3;simp at e0 e1 e2 e3;subst e0 e1 e2 e3;have b0:=bounds_i64 w0;have b1:=bounds_i64 w1;have b2:=bounds_u8 w2;have b3:=bounds_u8 w3;refine ⟨⟨n0,n1,n2.toNat,n3.toNat,by omega,by omega,by omega,by omega⟩,?_⟩;simp [Int.toNat_of_nonneg b2.1,Int.toNat_of_nonneg b3.1]
theorem FrArg_open {H:Type} {enc:TypeId × Value→H} {W:World} {v:Value} {base:Nat} {d:DataW H} {p:List MemPlace} (hv:Value.okWide prog W .any base 42 v)
  (h:∃ m,DataW.trod enc prog W 0 (fun _=>true) true m 42 v.cells.toList=some (d,p)):FrArg W v:=by
 obtain⟨m,hm⟩:=h;obtain⟨a,ha⟩:=frac_trod hm;exact ⟨a,yen ha (by simp)⟩
end
theorem yjf {m:Nat} (h:0<m):magS (m*256)=magS m++⟨#[0]⟩:=by
 apply ByteArray.ext;apply Array.toList_inj.1;rw [yhg,ydI (by omega),Nat.mul_div_cancel _ (by omega),Nat.mul_mod_left];rw [ByteArray.data_append,Array.toList_append,yhg];rfl
theorem ygL {z:Int} (h:z≠0):mgS (z*256)=mgS z++⟨#[0]⟩:=by
 unfold mgS;rw [Int.natAbs_mul];exact yjf (by omega)
theorem sgB_shift {z:Int}:sgB (z*256)=sgB z:=by
 unfold sgB;by_cases h:z<0
 ·have h2:z*256<0:=by omega
  simp [h,h2]
 have h2:¬ z*256<0:=by omega
 simp [h,h2]
theorem al_int (ev:Operand→Value) (w:World) (o:Oper) (ho:o.op = .alloc 26):(execOp ev o).run prog w = .ok (.value (.pointer (some ⟨w.heap.size,0,none⟩))) (w.alloc (.cells #[.bool false,.string ⟨#[]⟩] 26)):=by
 unfold execOp;simp only [ho];go_simp
theorem z_one (b:Bool) (s:ByteArray):(#[.bool b,.string s]:Array Value).all (·.oneCell')=true:=by kernel_rfl
theorem yfH {n:Int} {k:Nat} (h:n.natAbs<256 ^ 8):(mgS (n*256 ^ k)).size≤8+k:=by
 refine Fit_iff.2 ?_;rw [Int.natAbs_mul,Int.natAbs_pow,Nat.pow_add];exact Nat.mul_lt_mul_of_pos_right h (Nat.pow_pos (by decide))
theorem sgB_up {z:Int} {k:Nat}:sgB (z*256 ^ k)=sgB z:=by
 induction k with
 | zero=>simp
 | succ k ih=>rw [Int.pow_succ,← Int.mul_assoc,sgB_shift,ih]
def FrA.d (a:FrA):Int:=if a.den=0 then 1 else a.den
def FrA.q (a:FrA):Rat:=Rat.divInt (a.num*256 ^ (a.up % 9)) (a.d*256 ^ (a.down % 9))
theorem rat_c (a:FrA) (w:World):Calls prog 85 #[a.v] w fun e w'=>e = .returned (rv a.q)∧Keep [] w w':=by
 have H1:=jX (yib a.num a.hn.1 a.hn.2);have hd2 : -9223372036854775808≤a.d∧a.d≤9223372036854775807:=by have:=a.hd;unfold FrA.d;split<;>omega
 have hd0:a.d≠0:=by unfold FrA.d;split<;>omega
 have H2:=jX (yib a.d hd2.1 hd2.2);have hD:a.d=if a.den=0 then 1 else a.den:=rfl
 unfold FrA.v FrA.q;have hn9:a.num.natAbs<256 ^ 8:=by have:=a.hn;omega
 have hd9:a.d.natAbs<256 ^ 8:=by omega
 have hu:=a.hu;have hw:=a.hw;generalize a.num=n at *;generalize a.den=d0 at *;generalize a.up=u at *;generalize a.down=v at *;generalize a.d=d at *;have HD:=jX hD;clear hD;go_enter func85,ntmps85
 go_upto_region 1 with (fail)
 obtain⟨W,ga,gb,hW,ega,egb,Bga,Bgb,hga,hgb,hgW,HkW⟩:=al2h w (.cells #[.int .i64 n,.int .i64 d0,.int .u8 u,.int .u8 v] 42) (.cells #[.bool false,.string ⟨#[]⟩,.bool false,.string ⟨#[]⟩] 28);rw [← hW];try rw [egb]
 try rw [ega]
 clear hW ega egb;have pga:=yab Bga.out;have fga:=yae Bga.out;have hz:(d0 == 0)=decide (d0=0):=rfl;go_upto_if 11 with (fail)
 go_cut [3] (fun zv wx=>wx=W∧zv = .int .i64 d)
 case first =>
  by_cases h0:d0=0
  ·have hb:(d0 == 0)=true:=by simp [h0]
   have hdd:d=1:=by rw [HD.out,if_pos h0]
   subst h0 hdd;go_wp2_with fail;go_meet
   exact ⟨rfl,rfl⟩
  have hb:(d0 == 0)=false:=by simp [h0]
  have hdd:d=d0:=by rw [HD.out,if_neg h0]
  subst hdd;go_wp2_with fail;go_meet
  exact ⟨rfl,rfl⟩
 case rest =>
  obtain⟨rfl,rfl⟩:=hcut;rename World=>W;clear hz fga pga;have pga:=yab Bga.out;go_upto_region 4 with (fail)
  refine wp_region_lit ?_;refine wV ?_;go_simp;refine wV ?_;go_simp;refine wpList_plain (by rfl) (fun K hK=>?_);refine yag 133 #[.int .i64 n] (by go_simp) ?_;refine (H1.out _).mono ?_;rintro e w2 ⟨rfl,hk2⟩;refine ⟨_,rfl,?_⟩;go_simp;go_step
  refine wV ?_;go_simp;refine wpList_plain (by rfl) (fun K hK=>?_);refine yag 133 #[.int .i64 d] (by go_simp) ?_;refine (H2.out _).mono ?_;rintro e w3 ⟨rfl,hk3⟩;refine ⟨_,rfl,?_⟩;go_simp;go_step
  clear pga H1 H2;have HK3:=jX (HkW.out.tz (hk2.tz hk3));have Bga:=jX ((hk2.tz hk3).heap Bga.out (by simp));have Bgb:=jX ((hk2.tz hk3).heap Bgb.out (by simp));clear hk2 hk3;unfold zv;refine wA (al_int _ _ _ rfl) (fun w4 gc e2 bgc hgc _ hk4=>?_);go_simp;refine fO ?_;obtain⟨w5,gd,e3,e4,bgd,hgd,_,hk5⟩:=al1 w4 (.cells #[.bool false,.string ⟨#[]⟩] 26);refine yaU (v:=.pointer (some ⟨w4.heap.size,0,none⟩)) (w':=w4.alloc (.cells #[.bool false,.string ⟨#[]⟩] 26)) (by rfl) (al_int _ _ _ rfl) (fun K hK=>?_);rw [← e3,e4];clear e3;go_simp;go_step
  have bgc:=hk5.heap bgc (by simp);have hne:gc≠gd:=by have:=yaa bgc;omega
  refine yaM (by rfl) _ _ _ rfl gc #[.bool (sgB n),.string (mgS n)] rfl rfl _ _ bgc (by rfl) (by rfl) (z_one _ _) (fun K hK=>?_);obtain⟨w6,e5,b6,k6⟩:=yaD (cs:=#[.bool (sgB n),.string (mgS n)]) bgc;rw [e5];go_simp;go_step
  clear e5;have bgd:=k6.heap bgd (by simp;omega);refine yaM (by rfl) _ _ _ rfl gd #[.bool (sgB d),.string (mgS d)] rfl rfl _ _ bgd (by rfl) (by rfl) (z_one _ _) (fun K hK=>?_);obtain⟨w7,e7,b7,k7⟩:=yaD (cs:=#[.bool (sgB d),.string (mgS d)]) bgd;rw [e7];go_simp;go_step
  clear e7;have bgc:=k7.heap b6 (by simp;omega);have k35:=hk4.tz hk5;have k36:Keep [] w3 w6:=k35.trans k6 (by simp;omega);have k37:Keep [] w3 w7:=k36.trans k7 (by simp;omega);have HK7:=jX (HK3.out.tz k37);have hgw:w.heap.size≤gb∧w.heap.size≤gc∧w.heap.size≤gd∧gc≠gd:=⟨by omega,by have:=HK3.out.size;omega,by have:=HK3.out.size;have:=k35.size;have:=hk4.size;omega,hne⟩;have hga3:ga<gc∧gb<gc∧ga<gd∧gb<gd:=by have:=hk4.size;have h1:=yaa Bga.out;have h2:=yaa Bgb.out;omega
  have Bga:=jX (k37.heap Bga.out (by simp));have Bgb:=jX (k37.heap Bgb.out (by simp));have Bgc:=jX bgc;have Bgd:=jX b7;have Hne:=jX hne;clear hk4 hk5 k6 k7 b6 b7 k35 k36 k37 bgc bgd HK3 hne;go_upto_block 0 with (fail)
  go_cut [6] (fun _ wx=>wx.heap[gc]? = some (.cells #[.bool (sgB n),.string (mgS (n*256 ^ (u % 9)))] 26)∧Keep [gc] w7 wx)
  case first =>
   go_wp2_with fail;go_loopw [6] (fun c wr=>∃ k:Nat,k≤u % 9∧c = .int .u8 (k:Int)∧wr.heap[gc]? = some (.cells #[.bool (sgB n),.string (mgS (n*256 ^ k))] 26)∧Keep [gc] w7 wr) (fun c _=>u-(intOf c).toNat)
   case atStart=>exact ⟨0,Nat.zero_le _,rfl,by simpa using Bgc.out,Keep.refl _ _⟩
   case round =>
    obtain⟨k,hk,rfl,hbc,hkeep⟩:=hrel;have HKr:=jX hkeep;have Bgc:=jX hbc;have Bga:=jX (hkeep.heap Bga.out (by simp;omega));clear hkeep hbc;have pga:=yab Bga.out;have fga:=yae Bga.out;have pgc:=yab Bgc.out;have fgc:=yae Bgc.out;have lgc:=yaa Bgc.out
    have hrem:IntKind.u8.wrap (Int.tmod (u:Int) 9)=((u % 9:Nat):Int):=by
     rw [Int.tmod_eq_emod_of_nonneg (by omega),IntWalk.u8_in _ (by omega)];omega
    by_cases hlt:k<u % 9
    ·have hk1:(k:Int)<(u:Int) % 9:=by omega
     by_cases hn0:n=0
     ·have hm:mgS (n*256 ^ k)=mgS (n*256 ^ (u % 9)):=by rw [hn0,Int.zero_mul,Int.zero_mul]
      have hm0:mgS (n*256 ^ k)=⟨#[]⟩:=by rw [hn0,Int.zero_mul];exact magS_zero
      have HF:=jX (hm ▸ Bgc.out);clear hm hn0;rw [hm0] at pgc;have hs:(ByteArray.toList ⟨#[]⟩).isEmpty=true:=by rw [Lib.toList_data];rfl
      go_wp2_with fail;go_meet
      exact ⟨HF.out,HKr.out⟩
     have hne:mgS (n*256 ^ k)≠⟨#[]⟩:=fun h=>by
      have h2:=ybp.1 (show magS (n*256 ^ k).natAbs=⟨#[]⟩ from h)
      rw [Int.natAbs_mul,Int.natAbs_pow] at h2;have h3:=Nat.pow_pos (n:=k) (show 0<(256:Nat) by omega)
      have h4:=Nat.mul_pos (show 0<n.natAbs by omega) h3
      have:(256:Int).natAbs=256:=rfl;rw [this] at h2;omega
     have Hnx:Hid (mgS (n*256 ^ (k+1))=mgS (n*256 ^ k)++⟨#[0]⟩):=by
      rw [Int.pow_succ,← Int.mul_assoc];exact ygL (fun h=>hne (by rw [h];exact magS_zero))
     have hs:(mgS (n*256 ^ k)).toList.isEmpty=false:=by
      rw [Lib.toList_data,List.isEmpty_eq_false_iff];exact fun h=>hne (ByteArray.ext (Array.toList_inj.1 h))
     have hsz:¬ 9223372036854775807<(mgS (n*256 ^ k)).size+1:=by
      have:=yfH hn9 (k:=k);omega
     clear hn0 hne;generalize mgS (n*256 ^ k)=s at *;go_wp2_with fail;have b2:=set_same Bgc.out 1 (.string (s++⟨#[0]⟩));have k2:=HKr.out.trans (Keep.setCell [gc] wr gc 1 (.string (s++⟨#[0]⟩)) (by simp)) (by simp);go_roundw
     case rel=>exact ⟨k+1,by omega,congrArg (Value.int .u8) (by omega),by rw [Hnx.out];exact b2,k2⟩
     case measure=>simp [intOf];omega
    obtain rfl:k=u % 9:=by omega
    have hk1:¬ (((u % 9:Nat):Int)<(u:Int) % 9):=by omega
    have HF:=jX Bgc.out;go_wp2_with fail;go_meet
    exact ⟨HF.out,HKr.out⟩
  case rest =>
   obtain⟨hbc,hkc⟩:=hcut;rename World=>w8;have HK8:=jX (HK7.out.trans hkc (by simp;omega));have Bga:=jX (hkc.heap Bga.out (by simp;omega));have Bgb:=jX (hkc.heap Bgb.out (by simp;omega));have Bgd:=jX (hkc.heap Bgd.out (by simp;omega));have Bgc:=jX hbc;clear hbc hkc HK7;generalize hN:n*256 ^ (u % 9)=N at *;go_wp2_with fail;go_loopw [7] (fun c wr=>∃ k:Nat,k≤v % 9∧c = .int .u8 (k:Int)∧wr.heap[gd]? = some (.cells #[.bool (sgB d),.string (mgS (d*256 ^ k))] 26)∧Keep [gd] w8 wr) (fun c _=>v-(intOf c).toNat)
   case atStart=>exact ⟨0,Nat.zero_le _,rfl,by simpa using Bgd.out,Keep.refl _ _⟩
   case round =>
    obtain⟨k,hk,rfl,hbd,hkeep⟩:=hrel;have HKr:=jX hkeep;have Bgd:=jX hbd;have Bga:=jX (hkeep.heap Bga.out (by simp;omega));have Bgb:=jX (hkeep.heap Bgb.out (by simp;omega));have Bgc:=jX (hkeep.heap Bgc.out (by simp;omega));clear hkeep hbd;have pga:=yab Bga.out;have fga:=yae Bga.out;have pgd:=yab Bgd.out;have fgd:=yae Bgd.out;have lgd:=yaa Bgd.out;by_cases hlt:k<v % 9
    ·have hk1:(k:Int)<(v:Int) % 9:=by omega
     have Hnx:Hid (mgS (d*256 ^ (k+1))=mgS (d*256 ^ k)++⟨#[0]⟩):=by
      rw [Int.pow_succ,← Int.mul_assoc];refine ygL (fun h=>?_);rcases Int.mul_eq_zero.1 h with h|h
      ·exact hd0 h
      exact absurd h (by have:=Int.pow_pos (n:=(256:Int)) (m:=k) (by decide);omega)
     have hsz:¬ 9223372036854775807<(mgS (d*256 ^ k)).size+1:=by
      have:=yfH hd9 (k:=k);omega
     generalize mgS (d*256 ^ k)=s at *;go_wp2_with fail;have b2:=set_same Bgd.out 1 (.string (s++⟨#[0]⟩));have k2:=HKr.out.trans (Keep.setCell [gd] wr gd 1 (.string (s++⟨#[0]⟩)) (by simp)) (by simp);go_roundw
     case rel=>exact ⟨k+1,by omega,congrArg (Value.int .u8) (by omega),by rw [Hnx.out];exact b2,k2⟩
     case measure=>simp [intOf];omega
    obtain rfl:k=v % 9:=by omega
    have hk1:¬ (((v % 9:Nat):Int)<(v:Int) % 9):=by omega
    have pgb:=yab Bgb.out;have fgb:=yae Bgb.out;have lgb:=yaa Bgb.out;have pgc:=yab Bgc.out;have HKz:=jX (HK8.out.trans HKr.out (by simp;omega));have sgn:sgB n=sgB N:=by rw [← hN];exact sgB_up.symm
    have sgd:sgB d=sgB (d*256 ^ (v % 9)):=sgB_up.symm;generalize hD:d*256 ^ (v % 9)=D at *
    have hDn:D≠0:=by
     rw [← hD];exact fun h=>(Int.mul_eq_zero.1 h).elim hd0 (fun h=>absurd h (by have:=Int.pow_pos (n:=(256:Int)) (m:=v % 9) (by decide);omega))
    have hfN:Fit 100000000 N:=by
     have h:=yfH hn9 (k:=u % 9);rw [hN] at h;exact Nat.le_trans h (by omega)
    have hfD:Fit 100000000 D:=by
     have h:=yfH hd9 (k:=v % 9);rw [hD] at h;exact Nat.le_trans h (by omega)
    have HM:=jX (rmake_c N D hDn hfN hfD);unfold zv rv at HM;have HQ:Hid (Rat.divInt (n*256 ^ (u % 9)) (d*256 ^ (v % 9))=Rat.divInt N D):=by rw [hN,hD];exact jX rfl
    clear hN hD hDn hfN hfD;generalize Rat.divInt N D=q at *;go_wp2_with fail;refine (HM.out _).mono ?_;rintro e w9 ⟨rfl,hk9⟩;dsimp only;have HK9:=jX (HKz.out.tz hk9);have Bgb:=jX (hk9.heap Bgb.out (by simp));clear hk9 pga fga pgb fgb lgb pgc pgd fgd lgd;have pgb:=yab Bgb.out;have fgb:=yae Bgb.out;have lgb:=yaa Bgb.out;go_wp2_with fail;obtain⟨w10,e10,b10,k10⟩:=st4 (x:=.bool (sgB q.num)) (y:=.string (mgS q.num)) (z:=.bool false) (u:=.string (dnS q.den)) Bgb.out;rw [← e10];clear e10 pgb fgb lgb;have pgb:=yab b10;refine bodyPost_ret (v:=rv q) ?_ rfl ⟨by rw [HQ.out],HK9.out.trans k10 (by simp;omega)⟩;rw [yac rfl];unfold rv;go_simp
section
open Go.RowKit Go.Sort Go.Shelf
section
variable {P:Program} {ρ:Ren} {α:Type} [Inhabited α] {enc:α→List Value} {k:Nat}
theorem yhn (hk:∀ x,(enc x).length=k) {w:World} {g o n c:Nat} {l:List α} (h:RowE enc w (.slice (some ⟨g,o,none⟩) n c) l) (hf:∀ j,w.frozen? ⟨g,o+j,none⟩=false):HoldsK enc k w g o l.toArray:=by
 intro t ht;rw [size_flatK] at ht;have ht':t<l.length*k:=by simpa using ht
 refine ⟨?_,hf t⟩;have hk0:0<k:=Nat.pos_of_ne_zero (by rintro rfl;simp at ht');have hi:t / k<l.length:=Nat.div_lt_of_lt_mul (by rw [Nat.mul_comm];exact ht');have hj:t % k<k:=Nat.mod_lt _ hk0;rcases h with ⟨h,_⟩|⟨g',o',c',e,hc,hg,hx⟩
 ·cases h
 injection e with e1 e2 e3;injection e1 with e1;injection e1 with e1 e4;subst e1 e4;rw [get_flatK _ _ _ _ ht];refine hx t _ ?_;have h1:=ygd enc hk l (t / k) (t % k) hi hj;rw [Nat.div_add_mod' t k] at h1;have hj2:t % k<(enc l[t / k]).length:=by rw [hk];exact hj
 rw [h1,List.getElem?_eq_getElem hj2];have e2:l.toArray[t / k]! = l[t / k]:=by rw [getElem!_pos l.toArray (t / k) (by simpa using hi)];simp
 rw [e2,getElem!_pos (enc l[t / k]) (t % k) hj2];rfl
theorem yhk (hk:∀ x,(enc x).length=k) {w:World} {g o c:Nat} {d:Array α} (h:HoldsK enc k w g o d) (hg:g<w.heap.size) (hc:d.size≤c):RowE enc w (.slice (some ⟨g,o,none⟩) d.size c) d.toList:=by
 refine .inr ⟨g,o,c,by rw [Array.length_toList],by rw [Array.length_toList];exact hc,hg,fun t v hv=>?_⟩
 have ht:t<d.size*k:=by
  have:=(List.getElem?_eq_some_iff.1 hv).1;rw [ygj enc hk,Array.length_toList] at this;exact this
 have hk0:0<k:=Nat.pos_of_ne_zero (by rintro rfl;simp at ht);have hi:t / k<d.size:=Nat.div_lt_of_lt_mul (by rw [Nat.mul_comm];exact ht);have hj:t % k<k:=Nat.mod_lt _ hk0;have h1:=ygd enc hk d.toList (t / k) (t % k) (by simpa using hi) hj;rw [Nat.div_add_mod' t k,hv] at h1;have h2:=(h.cell hi hj).1;rw [Nat.add_assoc,Nat.div_add_mod' t k] at h2;rw [h2];have hj2:t % k<(enc d[t / k]).length:=by rw [hk];exact hj
 have e2:d[t / k]! = d[t / k]:=getElem!_pos d (t / k) hi;rw [e2,getElem!_pos (enc d[t / k]) (t % k) hj2];rw [Array.getElem_toList,List.getElem?_eq_getElem hj2] at h1;exact h1.symm
theorem ydk (w:World) (g o n:Nat) (d:Array α) (os:Array Obj):Keep [g] w (sortWorldK enc k w g o n d os):=by
 refine ⟨rfl,rfl,rfl,?_,?_,?_⟩
 ·unfold sortWorldK grow putRowK
  simp [Go.Sort.ahead]
 ·unfold sortWorldK grow putRowK
  simp [Go.Sort.ahead]
 intro j hj hn;have hne:¬ g=j:=fun e=>hn (by simp [e]);unfold sortWorldK grow putRowK putRow mapBlock Go.Sort.ahead;dsimp only;rw [Array.getElem?_append_left (by simpa using hj),Array.getElem?_modify,if_neg hne]
theorem sort_row (L:SlLaysF0.n6 P ρ) (hk0:0<k) (aE:∀ w,(isAgg (ρ.t 24)).run P w = .ok true w) (zE:∀ w,(Go.sizeOf (ρ.t 24)).run P w = .ok k w) (hk:∀ x,(enc x).length=k) (h1:∀ x,∀ v∈enc x,v.oneCell'=true) (cf:α→α→Int) (hO:SWO (ltOf cf)) (g:Nat)
  (eg:∀ args w,(callFunc g args).run P w = .ok (.enter g args) w) (hcmp:∀ x y w,Calls P g #[.agg (enc x).toArray,.agg (enc y).toArray] w fun e w'=>e = .returned (.int .i64 (cf x y))∧Keep [] w w')
  {w:World} {b o n c:Nat} {l:List α} (h:RowE enc w (.slice (some ⟨b,o,none⟩) n c) l) (hf:∀ j,w.frozen? ⟨b,o+j,none⟩=false) (hsz:l.length<4611686018427387904) :
  Calls P (ρ.f 6) #[.slice (some ⟨b,o,none⟩) n c,.func (.func g) #[] #[]] w fun e w' =>
   e = .returned (.tuple #[])∧∃ l',l'.Perm l∧l'.Pairwise (fun x y=>ltOf cf y x=false)∧RowE enc w' (.slice (some ⟨b,o,none⟩) n c) l'∧Keep [b] w w':=by
 have hH:=yhn hk h hf
 have hn:n=l.length∧n≤c∧b<w.heap.size:=by
  rcases h with ⟨h,_⟩|⟨g',o',c',e,hc,hg,hx⟩
  ·cases h
  injection e with e1 e2 e3;injection e1 with e1;injection e1 with e1 e4;subst e1 e2 e3;exact ⟨rfl,hc,hg⟩
 obtain⟨rfl,hnc,hb⟩:=hn
 have hcl:CmpLays P g #[] enc k cf b o l.toArray.size w:=fun m os dk _ x y=>by
  have:=hcmp x y (sortWorldK enc k w b o m dk os);exact this.mono fun e w' ⟨he,hkk⟩=>⟨he,hkk.regrown⟩
 have:=AnyQ.slices_SortFunc L k aE zE enc hk h1 cf hO g #[] b o c l.toArray w eg hcl hH hb (by simpa using hsz);rw [List.size_toArray] at this;refine this.mono ?_;rintro e w' ⟨he,d',m,os,⟨hp1,_,hp2⟩,hs,rfl⟩;have hp1:d'.size=l.length:=by simpa using hp1
 have hp:d'.toList.Perm l:=by
  have e1:d'.extract 0 l.length=d':=by rw [← hp1,Array.extract_size]
  have e2:l.toArray.extract 0 l.length=l.toArray:=by rw [← List.size_toArray,Array.extract_size]
  rw [e1,e2] at hp2
  simpa using hp2
 refine ⟨he,d'.toList,hp,?_,?_,ydk _ _ _ _ _ _⟩
 ·rw [List.pairwise_iff_getElem]
  intro i j hi hj hij;simp only [Array.length_toList] at hi hj;have:=hs i j (Nat.zero_le _) hij (by rw [← hp1];exact hj);rw [getElem!_pos d' j hj,getElem!_pos d' i hi] at this
  simpa using this
 have hh:HoldsK enc k (sortWorldK enc k w b o m d' os) b o d':=by
  unfold sortWorldK;exact holdsK_grow enc k _ os b o d' (by unfold putRowK;simpa [Go.Sort.ahead] using hb) (holdsK_putRowK enc k _ b o l.toArray d' (holdsK_ahead enc k w m b o _ hH) (by simpa using hp1))
 have:=yhk hk (c:=c) hh (Nat.lt_of_lt_of_le hb (ydk (enc:=enc) (k:=k) w b o m d' os).size) (by omega);rw [hp1] at this;exact this
end
end
theorem krcmp_c (x y:K) (w:World):Calls prog 81 #[kv x,kv y] w fun e w'=>e = .returned (.int .i64 (cmpQ x.1 y.1))∧Keep [] w w' :=
 RCompare_c x.1 y.1 ⟨x.2.2.1.mono (by decide),x.2.2.2.mono (by decide)⟩ ⟨y.2.2.1.mono (by decide),y.2.2.2.mono (by decide)⟩ w
theorem yiE (a b:Bd K) (w:World):Calls prog 76 #[bv a,bv b] w fun e w'=>e = .returned (.int .i64 (cmpB a b))∧Keep [] w w':=by
 have H1:=jX (krcmp_c a.pt b.pt);have hc:=cmp_tri a.pt b.pt;unfold cmpB;rw [yeu,yeu];rw [ybf,ybf] at H1;generalize cmpQ a.pt.1 b.pt.1=n at *;generalize sgB (a.pt.1).p.num=f1 at *;generalize mgS (a.pt.1).p.num=f2 at *;generalize dnS (a.pt.1).p.den=f3 at *;generalize sgB (a.pt.1).r.num=f4 at *;generalize mgS (a.pt.1).r.num=f5 at *;generalize dnS (a.pt.1).r.den=f6 at *;generalize (a.pt.1).neg=f7 at *;generalize sgB (b.pt.1).p.num=t1 at *;generalize mgS (b.pt.1).p.num=t2 at *;generalize dnS (b.pt.1).p.den=t3 at *;generalize sgB (b.pt.1).r.num=t4 at *;generalize mgS (b.pt.1).r.num=t5 at *;generalize dnS (b.pt.1).r.den=t6 at *;generalize (b.pt.1).neg=t7 at *;generalize a.beh=o at *;generalize b.beh=c at *;rcases hc with rfl|rfl|rfl
 ·rw [if_neg (by decide)]
  go_enter func76,ntmps76
  go_upto_region 1 with (fail)
  obtain⟨W,ga,gb,hW,ega,egb,Bga,Bgb,hga,hgb,hgW,HkW⟩:=al2h w (.cells #[.bool f1,.string f2,.bool false,.string f3,.bool f4,.string f5,.bool false,.string f6,.bool f7,.bool o] 114) (.cells #[.bool t1,.string t2,.bool false,.string t3,.bool t4,.string t5,.bool false,.string t6,.bool t7,.bool c] 114);rw [← hW];try rw [egb]
  try rw [ega]
  clear hW ega egb;obtain⟨pga,fga,lga⟩:=jQ Bga;obtain⟨pgb,fgb,lgb⟩:=jQ Bgb;go_wp2_with fail;refine (H1.out _).mono ?_;rintro e w1 ⟨rfl,hk_w1⟩;dsimp only;clear pga fga lga pgb fgb lgb;replace Bga:=jH hk_w1 Bga;replace Bgb:=jH hk_w1 Bgb;replace HkW:=jX (HkW.out.tz hk_w1);clear hk_w1;obtain⟨pga,fga,lga⟩:=jQ Bga;obtain⟨pgb,fgb,lgb⟩:=jQ Bgb;go_wp2_with fail;go_ret
  exact ⟨rfl,by repeat (first|(with_reducible exact HkW.out)|(refine Keep.sP ?_ _ _ _ (by omega))|(refine Keep.aP ?_ _)|(refine Keep.dP ?_))⟩
 ·rw [if_pos rfl]
  cases o<;>cases c
  ·rw [if_pos rfl]
   go_enter func76,ntmps76
   go_upto_region 1 with (fail)
   obtain⟨W,ga,gb,hW,ega,egb,Bga,Bgb,hga,hgb,hgW,HkW⟩:=al2h w (.cells #[.bool f1,.string f2,.bool false,.string f3,.bool f4,.string f5,.bool false,.string f6,.bool f7,.bool false] 114) (.cells #[.bool t1,.string t2,.bool false,.string t3,.bool t4,.string t5,.bool false,.string t6,.bool t7,.bool false] 114);rw [← hW];try rw [egb]
   try rw [ega]
   clear hW ega egb;obtain⟨pga,fga,lga⟩:=jQ Bga;obtain⟨pgb,fgb,lgb⟩:=jQ Bgb;go_wp2_with fail;refine (H1.out _).mono ?_;rintro e w1 ⟨rfl,hk_w1⟩;dsimp only;clear pga fga lga pgb fgb lgb;replace Bga:=jH hk_w1 Bga;replace Bgb:=jH hk_w1 Bgb;replace HkW:=jX (HkW.out.tz hk_w1);clear hk_w1;obtain⟨pga,fga,lga⟩:=jQ Bga;obtain⟨pgb,fgb,lgb⟩:=jQ Bgb;go_wp2_with fail;go_ret
   exact ⟨rfl,by repeat (first|(with_reducible exact HkW.out)|(refine Keep.sP ?_ _ _ _ (by omega))|(refine Keep.aP ?_ _)|(refine Keep.dP ?_))⟩
  ·rw [if_neg (by decide),if_pos rfl]
   go_enter func76,ntmps76
   go_upto_region 1 with (fail)
   obtain⟨W,ga,gb,hW,ega,egb,Bga,Bgb,hga,hgb,hgW,HkW⟩:=al2h w (.cells #[.bool f1,.string f2,.bool false,.string f3,.bool f4,.string f5,.bool false,.string f6,.bool f7,.bool false] 114) (.cells #[.bool t1,.string t2,.bool false,.string t3,.bool t4,.string t5,.bool false,.string t6,.bool t7,.bool true] 114);rw [← hW];try rw [egb]
   try rw [ega]
   clear hW ega egb;obtain⟨pga,fga,lga⟩:=jQ Bga;obtain⟨pgb,fgb,lgb⟩:=jQ Bgb;go_wp2_with fail;refine (H1.out _).mono ?_;rintro e w1 ⟨rfl,hk_w1⟩;dsimp only;clear pga fga lga pgb fgb lgb;replace Bga:=jH hk_w1 Bga;replace Bgb:=jH hk_w1 Bgb;replace HkW:=jX (HkW.out.tz hk_w1);clear hk_w1;obtain⟨pga,fga,lga⟩:=jQ Bga;obtain⟨pgb,fgb,lgb⟩:=jQ Bgb;go_wp2_with fail;go_ret
   exact ⟨rfl,by repeat (first|(with_reducible exact HkW.out)|(refine Keep.sP ?_ _ _ _ (by omega))|(refine Keep.aP ?_ _)|(refine Keep.dP ?_))⟩
  ·rw [if_neg (by decide),if_neg (by decide)]
   go_enter func76,ntmps76
   go_upto_region 1 with (fail)
   obtain⟨W,ga,gb,hW,ega,egb,Bga,Bgb,hga,hgb,hgW,HkW⟩:=al2h w (.cells #[.bool f1,.string f2,.bool false,.string f3,.bool f4,.string f5,.bool false,.string f6,.bool f7,.bool true] 114) (.cells #[.bool t1,.string t2,.bool false,.string t3,.bool t4,.string t5,.bool false,.string t6,.bool t7,.bool false] 114);rw [← hW];try rw [egb]
   try rw [ega]
   clear hW ega egb;obtain⟨pga,fga,lga⟩:=jQ Bga;obtain⟨pgb,fgb,lgb⟩:=jQ Bgb;go_wp2_with fail;refine (H1.out _).mono ?_;rintro e w1 ⟨rfl,hk_w1⟩;dsimp only;clear pga fga lga pgb fgb lgb;replace Bga:=jH hk_w1 Bga;replace Bgb:=jH hk_w1 Bgb;replace HkW:=jX (HkW.out.tz hk_w1);clear hk_w1;obtain⟨pga,fga,lga⟩:=jQ Bga;obtain⟨pgb,fgb,lgb⟩:=jQ Bgb;go_wp2_with fail;go_ret
   exact ⟨rfl,by repeat (first|(with_reducible exact HkW.out)|(refine Keep.sP ?_ _ _ _ (by omega))|(refine Keep.aP ?_ _)|(refine Keep.dP ?_))⟩
  rw [if_pos rfl];go_enter func76,ntmps76
  go_upto_region 1 with (fail)
  obtain⟨W,ga,gb,hW,ega,egb,Bga,Bgb,hga,hgb,hgW,HkW⟩:=al2h w (.cells #[.bool f1,.string f2,.bool false,.string f3,.bool f4,.string f5,.bool false,.string f6,.bool f7,.bool true] 114) (.cells #[.bool t1,.string t2,.bool false,.string t3,.bool t4,.string t5,.bool false,.string t6,.bool t7,.bool true] 114);rw [← hW];try rw [egb]
  try rw [ega]
  clear hW ega egb;obtain⟨pga,fga,lga⟩:=jQ Bga;obtain⟨pgb,fgb,lgb⟩:=jQ Bgb;go_wp2_with fail;refine (H1.out _).mono ?_;rintro e w1 ⟨rfl,hk_w1⟩;dsimp only;clear pga fga lga pgb fgb lgb;replace Bga:=jH hk_w1 Bga;replace Bgb:=jH hk_w1 Bgb;replace HkW:=jX (HkW.out.tz hk_w1);clear hk_w1;obtain⟨pga,fga,lga⟩:=jQ Bga;obtain⟨pgb,fgb,lgb⟩:=jQ Bgb;go_wp2_with fail;go_ret
  exact ⟨rfl,by repeat (first|(with_reducible exact HkW.out)|(refine Keep.sP ?_ _ _ _ (by omega))|(refine Keep.aP ?_ _)|(refine Keep.dP ?_))⟩
 rw [if_neg (by decide)];go_enter func76,ntmps76
 go_upto_region 1 with (fail)
 obtain⟨W,ga,gb,hW,ega,egb,Bga,Bgb,hga,hgb,hgW,HkW⟩:=al2h w (.cells #[.bool f1,.string f2,.bool false,.string f3,.bool f4,.string f5,.bool false,.string f6,.bool f7,.bool o] 114) (.cells #[.bool t1,.string t2,.bool false,.string t3,.bool t4,.string t5,.bool false,.string t6,.bool t7,.bool c] 114);rw [← hW];try rw [egb]
 try rw [ega]
 clear hW ega egb;obtain⟨pga,fga,lga⟩:=jQ Bga;obtain⟨pgb,fgb,lgb⟩:=jQ Bgb;go_wp2_with fail;refine (H1.out _).mono ?_;rintro e w1 ⟨rfl,hk_w1⟩;dsimp only;clear pga fga lga pgb fgb lgb;replace Bga:=jH hk_w1 Bga;replace Bgb:=jH hk_w1 Bgb;replace HkW:=jX (HkW.out.tz hk_w1);clear hk_w1;obtain⟨pga,fga,lga⟩:=jQ Bga;obtain⟨pgb,fgb,lgb⟩:=jQ Bgb;go_wp2_with fail;go_ret
 exact ⟨rfl,by repeat (first|(with_reducible exact HkW.out)|(refine Keep.sP ?_ _ _ _ (by omega))|(refine Keep.aP ?_ _)|(refine Keep.dP ?_))⟩
end Go.Proofs.YtpgffjjpiafhpaaGreatDoor
