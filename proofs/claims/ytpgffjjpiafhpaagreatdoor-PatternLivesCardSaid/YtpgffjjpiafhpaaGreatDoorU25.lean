/- Parts of a proof: Vl Lb Ia Ie Mf Fd. -/
import Derived.Test.YtpgffjjpiafhpaaGreatDoorU16
import Derived.Test.YtpgffjjpiafhpaaGreatDoorU24
import Derived.Test.YtpgffjjpiafhpaaGreatDoorU15
import Derived.Test.YtpgffjjpiafhpaaGreatDoorU18
import Derived.Test.YtpgffjjpiafhpaaGreatDoorU20
import Derived.Test.YtpgffjjpiafhpaaGreatDoorU19
set_option linter.unusedVariables false
set_option linter.unusedSimpArgs false
set_option linter.unusedSectionVars false
set_option maxRecDepth 100000
set_option maxHeartbeats 8000000
namespace Go.Proofs.YtpgffjjpiafhpaaGreatDoor
open Go.RowKit Tryz
section
open Go.RowKit Go.Sort Go.Shelf
section
variable {P:Program} {ρ:Ren} {α:Type} [Inhabited α] {enc:α→List Value} {k:Nat}
theorem yhE {w:World} {g c n:Nat} {e:TypeId} {cur:Array Value} {l:List α} (hk:∀ x,(enc x).length=k) (hn:n=l.length) (hr:RowE enc w (.slice (some ⟨g,0,none⟩) n c) l) (hg:w.heap[g]? = some (.cells cur e (0,0))) (hnc:n≤c) (hcm:c≤maxLen) (hcs:cur.size=c*k) :
  w.ownsRow 0 e k (.slice (some ⟨g,0,none⟩) n c) n (l.flatMap enc):=by
 have hlen:(l.flatMap enc).length=n*k:=by rw [yeC enc hk,hn]
 refine ⟨hlen,.inr ⟨g,c,cur,rfl,Nat.zero_le _,hg,hnc,hcm,hcs,?_⟩⟩;rcases hr with ⟨hv,_⟩|⟨g',o',c',hv,_,_,hx⟩
 ·cases hv
 injection hv with e1 e2 e3;injection e1 with e1;injection e1 with e1 e4;subst e1 e4;have hle:n*k≤c*k:=Nat.mul_le_mul_right _ hnc;refine List.ext_getElem? fun i=>?_;by_cases hi:i<n*k
 ·rw [List.getElem?_take_of_lt hi]
  have hi2:i<(l.flatMap enc).length:=by omega
  have h1:=hx i _ (List.getElem?_eq_getElem hi2);rw [Nat.zero_add,yab hg] at h1;rw [List.getElem?_eq_getElem hi2,← h1];simp
 rw [List.getElem?_eq_none (by rw [List.length_take];omega),List.getElem?_eq_none (by omega)]
end
instance:Inhabited K:=⟨kZ⟩
theorem cmpK_lt (a b:K):cmpQ a.1 b.1<0↔a<b:=by
 rcases K.tri a b with ⟨h,g⟩|⟨h,g⟩|⟨h,g⟩
 ·rw [h];constructor
  ·intro h;exact absurd h (by decide)
  intro h;exact absurd (K.trans g h) (K.irrefl _)
 ·rw [h];exact ⟨fun _=>g,fun _=>by decide⟩
 rw [h];subst g;constructor
 ·intro h;exact absurd h (by decide)
 intro h;exact absurd h (K.irrefl _)
end
section
open Classical
theorem rawC_size (r:RawI):(prog.info? 32).map (·.size)=some r.C.size:=by
 obtain⟨i,z,hi,hz,hs,hb,hzc⟩:=iv_info;rw [hi];exact congrArg some hs
theorem yiu (x:RawR):∀ v∈x.cells,v.oneCell'=true:=by
 intro v hv;simp only [RawR.cells,List.mem_cons,List.not_mem_nil,or_false] at hv;rcases hv with rfl|rfl|rfl|rfl|rfl|rfl|rfl|rfl|rfl<;>rfl
theorem rawC_ones (r:RawI):r.C.all (·.oneCell')=true:=all_oneCell_toArray (by
 intro v hv;unfold RawI.cells at hv;rcases List.mem_append.1 hv with hv|hv
 ·rcases List.mem_append.1 hv with hv|hv
  ·exact yiu _ v hv
  exact yiu _ v hv
 simp only [List.mem_cons,List.not_mem_nil,or_false] at hv
 rcases hv with rfl|rfl<;>rfl)
theorem cmpB_gt (a b:Bd K):0<cmpB a b↔b<a:=by
 rcases ycW a b with ⟨h,g⟩|⟨h,g⟩|⟨h,g⟩
 ·rw [h];exact ⟨fun _=>g,fun _=>by decide⟩
 ·rw [h];constructor
  ·intro h;exact absurd h (by decide)
  intro h;grind
 rw [h];subst g;constructor
 ·intro h;exact absurd h (by decide)
 intro h;grind
theorem cmpB_eq (a b:Bd K):cmpB a b=0↔a=b:=by
 rcases ycW a b with ⟨h,g⟩|⟨h,g⟩|⟨h,g⟩
 ·rw [h];constructor
  ·intro h;exact absurd h (by decide)
  rintro rfl;grind
 ·rw [h];constructor
  ·intro h;exact absurd h (by decide)
  rintro rfl;grind
 rw [h];exact ⟨fun _=>g,fun _=>rfl⟩
theorem pcheck_p (l:List RawI) (hs:∀ r∈l,r.sz 100000) (w:World) (sv:Value) (hr:RIQ w sv l) (h9:l.length≤1000000) :
  Calls prog 19 #[sv] w fun e w'=>e = .returned (.int .i64 (chkL none l))∧Below w.heap.size w w':=by
 have HR:=jX hr;have HCI:=jX (fun r (h:r∈l)=>pci_p r (hs r h));obtain⟨ao,ac,rfl,_⟩:=hr;clear hs;go_enter func19,ntmps19
 go_wp2_with fail;go_loopw [10] (fun c wr=>∃ (k:Nat) (p:Option (Iv K)),k≤l.length∧c = .int .i64 (k:Int)∧ChkAt l k p∧Below w.heap.size w wr) (fun c _=>l.length-(intOf c).toNat)
 case atStart=>exact ⟨0,none,Nat.zero_le _,rfl,ChkAt.start l,Below.refl _ _⟩
 case round =>
  obtain⟨k,pv,hk,rfl,hca,hb⟩:=hrel;have HA:=jX hca;have HB:=jX hb;clear hca hb;by_cases hlt:k<l.length
  ·obtain⟨g,o,rfl,hg,hat⟩:=RIQ.elem (HR.out.laterB HB.out) k hlt
   have HI:=jX (HCI.out l[k] (List.getElem_mem hlt));have HErr:=jX (HA.out.err hlt);obtain⟨r,hrk⟩:∃ r,l[k]=r:=⟨_,rfl⟩;have Hrk:=jX hrk;rw [hrk] at hat HI HErr;clear hrk;obtain⟨q,hq⟩:∃ q,o+k*20=q:=⟨_,rfl⟩;rw [hq] at hat;have HL:=jX (ydv wr g q r hat);have HBox:=jX (fun (u:World) (b:Nat) (h:u.heap[b]? = some (.cells r.C 32))=>ydv u b 0 r (yfY h));have HCs:=jX (And.intro (rawC_size r) (And.intro (rawC_ones r) (show r.C.size=20 from rfl)))
   have hrv:r.v = .agg r.C:=rfl;rw [hrv] at HI HL HBox;obtain⟨C,hC⟩:∃ C,r.C=C:=⟨_,rfl⟩;rw [hC] at HI HL HBox HCs;have HC:=jX hC;clear hat hrv hC;have hkc:(k:Int)<(l.length:Int):=by omega
   go_upto_region 3 with (fail)
   refine wp_region_lit ?_;refine wV ?_;go_simp;refine wV ?_;go_simp;refine wX (v:=.agg C) ⟨g,q,none⟩ (HL.out) ?_;go_simp;refine wA (ygi _ _ _ rfl) (fun w1 gt e2 bgt hgt _ hk1=>?_);go_simp;refine wV ?_;go_simp;refine wR gt C bgt HCs.out.1 (by rw [HCs.out.2.2];rfl) HCs.out.2.1 (fun w2 b4 k4=>?_);go_simp;clear HL;refine fO ?_;have HW2:=jX (show Keep [] wr w2 from hk1.trans k4 (by simp;omega))
   have Bgt:=jX b4;have HB2:=jX (HB.out.trans (Below.mono HW2.out.bz HB.out.size));clear b4 k4 hk1 bgt;go_upto_region 4 with (fail)
   refine wp_region_lit ?_;refine wX (v:=.agg C) ⟨gt,0,none⟩ ((HBox.out w2 gt Bgt.out)) ?_;go_simp;refine wpList_plain (by rfl) (fun K hK=>?_);refine yaf 17 #[.agg C] (by go_simp) ?_;refine (HI.out _).mono ?_;rintro e w3 ⟨rfl,hb3⟩;refine ⟨_,rfl,?_⟩;go_simp;go_step
   have HB3:=jX (HB2.out.trans (Below.mono hb3 HB2.out.size));have B2gt:=jX ((hb3.block gt (yaa Bgt.out)).trans Bgt.out);clear Bgt;have Bgt:=B2gt;clear B2gt;clear hb3 HI;have HZ:=jX (@eI_zero r);obtain⟨e0,he0⟩:∃ e0,eI r=e0:=⟨_,rfl⟩;rw [he0] at HErr HZ;rw [he0];clear he0;by_cases he:e0=0
   ·subst he
    obtain⟨i,hi,hv⟩:=HZ.out rfl;have Hi:=jX (Hrk.out.trans hi);have Hv:=jX hv;have Hri:=jX hi;clear hi hv HZ HErr;rcases Nat.eq_zero_or_pos k with hk0|hk0
    ·subst hk0
     have HN:=jX (HA.out.zero hlt Hi.out Hv.out);go_wp2_with fail;go_roundw
     case rel=>exact ⟨1,some i,by omega,rfl,HN.out,HB3.out⟩
     case measure=>simp [intOf];omega
    obtain⟨j,hj⟩:∃ j,k=j+1:=⟨k-1,by omega⟩;have hjl:j<l.length:=by omega
    obtain⟨b,hb,n11,n5,nok⟩:∃ b:Iv K,l[j]'hjl=RawI.of b∧((i.f.pt<b.l.pt∨i.f<b.l)→chkL none l=11)∧(¬ (i.f.pt<b.l.pt∨i.f<b.l)→b.l=i.f→chkL none l=5)∧(¬ (i.f.pt<b.l.pt∨i.f<b.l)→b.l≠i.f→ChkAt l (k+1) (some i)):=by
     subst hj;exact ChkAt.next HA.out hlt Hi.out Hv.out
    obtain⟨g',o',e,hg',hat'⟩:=RIQ.elem (HR.out.laterB HB3.out) j hjl;injection e with e;injection e with e1 e2;subst e1 e2;rw [hb] at hat';obtain⟨qb,hqb⟩:∃ qb,o+j*20=qb:=⟨_,rfl⟩;rw [hqb] at hat';have HLb:=jX (ydv w3 g qb (RawI.of b) hat');have hCi:C=iC i:=by rw [← HC.out,Hri.out];rfl
    have N11:=jX n11;have N5:=jX n5;have Nok:=jX nok;have H1:=jX (yhl b);have H2:=jX (yfi i);have H3:=jX (yfk b.l i.f);have H4:=jX (yfR i.f.pt b.l.pt);have HXf:Hid (∀ (u:World),u.heap[gt]? = some (.cells (iC i) 32)→(loadVar 30 ⟨gt,0,none⟩).run prog u = .ok (kv i.f.pt) u):=fun u h=>yax u gt 0 i.f.pt.1 (yao h).frm;have HXt:Hid (∀ (u:World) (gb:Nat),u.heap[gb]? = some (.cells (iC b) 32)→(loadVar 30 ⟨gb,9,none⟩).run prog u = .ok (kv b.l.pt) u):=fun u gb h=>yax u gb (0+9) b.l.pt.1 (yao h).upto;have HBb:=jX (fun (u:World) (gb:Nat) (h:u.heap[gb]? = some (.cells (iC b) 32))=>yaJ u gb 0 b (yao h));have HSb:=jX (And.intro (ybL b) (And.intro (ybP b) (show (iC b).size=20 from rfl)))
    have hlt1:=cmpK_lt i.f.pt b.l.pt;have hgt1:=cmpB_gt b.l i.f;have heq1:=cmpB_eq b.l i.f;have Hlt1:=jX hlt1;have Hgt1:=jX hgt1;have Heq1:=jX heq1;rw [show (RawI.of b).v = .agg (iC b) from rfl] at HLb
    rw [← hCi] at HXf;rw [show iv i = .agg (iC i) from rfl,← hCi] at H2
    rw [show iv b = .agg (iC b) from rfl] at H1 HBb
    unfold bv at H1 H2 H3;unfold kv at HXf HXt H4;have hsub:(k:Int)-1=(j:Int):=by omega
    have hjc:(j:Int)<(l.length:Int):=by omega
    have hwj:IntKind.i64.wrap (j:Int)=(j:Int):=IntWalk.i64_in _ (by omega);have hj0:(0:Int)≤(j:Int):=by omega
    have hjt:(j:Int).toNat=j:=by omega
    have hke:((k:Int) == 0)=false:=by rw [beq_eq_false_iff_ne];omega
    clear hb n11 n5 nok hCi hlt1 hgt1 heq1 hat' hj;generalize (bcells i.f).toArray=BF at *;generalize (bcells b.l).toArray=BL at *;generalize kC i.f.pt=F1 at *;generalize kC b.l.pt=L1 at *;generalize iC b=CB at *;generalize cmpB b.l i.f=n2 at *;generalize cmpQ i.f.pt.1 b.l.pt.1=n1 at *;go_upto_region 8 with (fail)
    refine wp_region_lit ?_;refine wV ?_;go_simp;refine wV ?_;go_simp;refine wV ?_;go_simp;refine wV ?_;go_simp;refine wX (v:=.agg CB) ⟨g,qb,none⟩ (HLb.out) ?_;go_simp;refine wA (ygi _ _ _ rfl) (fun w4 gb e2 bgb hgb _ hk4=>?_);go_simp;refine wR gb CB bgb HSb.out.1 (by rw [HSb.out.2.2];rfl) HSb.out.2.1 (fun w5 b5 k5=>?_);go_simp;clear HLb;refine fO ?_;have HW5:=jX (show Keep [] w3 w5 from hk4.trans k5 (by simp;omega))
    have Bgb:=jX b5;have Bgt5:=jX (HW5.out.heap Bgt.out (by simp));have HB5:=jX (HB3.out.trans (Below.mono HW5.out.bz HB3.out.size));clear b5 k5 hk4 bgb;go_wp2_with fail;have HX1:Hid (∀ m:KW w5,(loadVar 32 ⟨gb,0,none⟩).run prog (Wk w5 m) = .ok (.agg CB) (Wk w5 m)):=fun m=>HBb.out _ gb (m.k.heap Bgb.out (by simp));have HX2:Hid (∀ m:KW w5,(loadVar 32 ⟨gt,0,none⟩).run prog (Wk w5 m) = .ok (.agg C) (Wk w5 m)):=fun m=>HBox.out _ gt (m.k.heap Bgt5.out (by simp));have Q1:Hid (∀ m:KW w5,Calls prog 78 #[.agg CB] (Wk w5 m) fun e w'=>e = .returned (.agg BL)∧∃ m,w'=Wk w5 m):=fun m=>qk m (H1.out _);have Q2:Hid (∀ m:KW w5,Calls prog 77 #[.agg C] (Wk w5 m) fun e w'=>e = .returned (.agg BF)∧∃ m,w'=Wk w5 m):=fun m=>qk m (H2.out _);have Q3:Hid (∀ m:KW w5,Calls prog 76 #[.agg BL,.agg BF] (Wk w5 m) fun e w'=>e = .returned (.int .i64 n2)∧∃ m,w'=Wk w5 m):=fun m=>qk m (H3.out _);refine yad (by kernel_rfl) (by kernel_rfl) ?_
    repeat (first
     | go_big_quiet_skip
     | (go_big_quiet_want;first
      | (refine yaj _ _ _ (.agg CB) rfl rfl (by rintro _ ⟨m,rfl⟩;exact HX1.out m) ?_;go_simp;go_big_quiet_on)|(refine yaj _ _ _ (.agg C) rfl rfl (by rintro _ ⟨m,rfl⟩;exact HX2.out m) ?_;go_simp;go_big_quiet_on)
      | (go_big_quiet_op;first|go_big_quiet_on|go_big_quiet_call (first
       | (go_at_call 78;with_reducible exact (Q1).out _)|(go_at_call 77;with_reducible exact (Q2).out _)|(go_at_call 76;with_reducible exact (Q3).out _)))))
    refine wpQuiet_nil ?_;rintro w6 ⟨⟨_,hk_w6⟩,rfl⟩;have Bgb6:=jX (hk_w6.heap Bgb.out (by simp));have Bgt6:=jX (hk_w6.heap Bgt5.out (by simp));have HB6:=jX (HB5.out.trans (Below.mono hk_w6.bz HB5.out.size));clear hk_w6 HX1 HX2 Q1 Q2 Q3 H1 H2 H3;go_upto_region 10 with (fail)
    refine wp_region_lit ?_;refine wV ?_;go_simp;refine wX (v:=.agg F1) ⟨gt,0,none⟩ ((HXf.out w6 Bgt6.out)) ?_;go_simp;refine wV ?_;go_simp;refine wX (v:=.agg L1) ⟨gb,9,none⟩ ((HXt.out w6 gb Bgb6.out)) ?_;go_simp;refine wpList_plain (by rfl) (fun K hK=>?_);refine yaf 81 #[.agg F1,.agg L1] (by go_simp) ?_;refine (H4.out _).mono ?_;rintro e w7 ⟨rfl,hk7⟩;refine ⟨_,rfl,?_⟩;go_simp;go_step
    have HB7:=jX (HB6.out.trans (Below.mono hk7.bz HB6.out.size));clear hk7 H4;by_cases h1:n1<0
    ·have HE:=jX (N11.out (.inl (Hlt1.out.1 h1)))
     clear N11 N5 Nok;go_wp2_with fail;go_ret
     exact ⟨by rw [HE.out];rfl,HB7.out⟩
    by_cases h2:0<n2
    ·have HE:=jX (N11.out (.inr (Hgt1.out.1 h2)))
     clear N11 N5 Nok;go_wp2_with fail;go_ret
     exact ⟨by rw [HE.out];rfl,HB7.out⟩
    have hno:¬ (i.f.pt<b.l.pt∨i.f<b.l):=fun h=>h.elim (fun h=>h1 (Hlt1.out.2 h)) (fun h=>h2 (Hgt1.out.2 h));by_cases h3:n2=0
    ·have HE:=jX (N5.out hno (Heq1.out.1 h3))
     subst h3;clear N11 N5 Nok hno;go_wp2_with fail;go_ret
     exact ⟨by rw [HE.out];rfl,HB7.out⟩
    have HE:=jX (Nok.out hno (fun h=>h3 (Heq1.out.2 h)));have h3b:(n2 == 0)=false:=by rw [beq_eq_false_iff_ne];exact h3
    clear N11 N5 Nok hno;go_wp2_with fail;go_roundw
    case rel=>exact ⟨k+1,some i,by omega,congrArg (Value.int .i64) (by omega),HE.out,HB7.out⟩
    case measure=>simp [intOf];omega
   have hne:(e0 != 0)=true:=by rw [bne_iff_ne];exact he
   have HE:=jX (HErr.out he);clear HZ HErr he;go_wp2_with fail;go_ret
   exact ⟨by rw [HE.out];rfl,HB3.out⟩
  obtain rfl:k=l.length:=by omega
  have HD:=jX (HA.out.done);go_wp2_with fail;go_ret
  exact ⟨by rw [HD.out];rfl,HB.out⟩
end
section
open Go.ChangeShapes Go.WideShapes Go.ChangeAt
theorem cells_str:prog.cellsOf 9=1:=by kernel_rfl
theorem cells_zint:prog.cellsOf 26=2:=by kernel_rfl
theorem cells_zrat:prog.cellsOf 28=4:=by kernel_rfl
theorem cells_zreal:prog.cellsOf 30=9:=by kernel_rfl
section
variable {H:Type} {enc:TypeId × Value→H} {w:World} {base:Nat} {held:Bool} {fuel:Nat}
def Wt (t:TypeId) (d:DataW H) (B:Nat):Prop:=∀ n∈d.weights prog t,n≤B
theorem wt_head {t:TypeId} {ts:List TypeId} {d:DataW H} {r:List (DataW H)} (h:(DataW.weightsEach prog (t :: ts) (d :: r)).all (· ≤ reachBytes)=true):Wt t d reachBytes:=fun n hn=>by
 have:=List.all_eq_true.1 h n (by rw [DataW.weightsEach];exact List.mem_append_left _ hn)
 simpa using this
theorem wt_tail {t:TypeId} {ts:List TypeId} {d:DataW H} {r:List (DataW H)} (h:(DataW.weightsEach prog (t :: ts) (d :: r)).all (· ≤ reachBytes)=true):(DataW.weightsEach prog ts r).all (· ≤ reachBytes)=true:=by
 rw [DataW.weightsEach,List.all_append,Bool.and_eq_true] at h;exact h.2
theorem zint_w (a b:DataW H):(DataW.agg [a,b]:DataW H).weights prog 26=a.weights prog 4++b.weights prog 9:=by
 simp [DataW.weights,DataW.weightsEach,underlying26]
theorem zrat_w (a b:DataW H):(DataW.agg [a,b]:DataW H).weights prog 28=a.weights prog 26++b.weights prog 26:=by
 simp [DataW.weights,DataW.weightsEach,underlying28]
theorem zreal_w (a b c:DataW H):(DataW.agg [a,b,c]:DataW H).weights prog 30=a.weights prog 28++(b.weights prog 28++c.weights prog 4):=by
 simp [DataW.weights,DataW.weightsEach,underlying30]
theorem ygV {cs:List Value} {x:DataW H × List MemPlace} (h:DataW.trod enc prog w base (fun _=>true) held fuel 26 cs=some x):∃ (b:Bool) (s:ByteArray),cs=[.bool b,.string s]∧∀ B,Wt 26 x.1 B→s.size≤B:=by
 obtain⟨xs,n,_,rfl,hl,hlen,hf⟩:=DataW.trod_struct underlying26 h;rw [cells_zint] at hl
 match cs,hl with
 | [c0,c1],_ =>
  match xs,hlen with
  | [x0,x1],_ =>
   have h0:DataW.trod enc prog w base (fun _=>true) held n 4 (([c0,c1].drop 0).take (prog.cellsOf 4))=some x0:=hf 0 _ rfl;have h1:DataW.trod enc prog w base (fun _=>true) held n 9 (([c0,c1].drop 1).take (prog.cellsOf 9))=some x1:=hf 1 _ rfl;rw [cells_bool] at h0;rw [cells_str] at h1;obtain⟨b,e0,_⟩:=DataW.trod_bool underlying4 h0;obtain⟨s,e1,rfl,_⟩:=DataW.trod_string underlying9 h1;simp at e0 e1;refine ⟨b,s,by rw [e0,e1],fun B hB=>hB _ ?_⟩;simp only [List.map_cons,List.map_nil];rw [zint_w];exact List.mem_append_right _ (by simp [DataW.weights])
theorem ygH {cs:List Value} {x:DataW H × List MemPlace} (h:DataW.trod enc prog w base (fun _=>true) held fuel 28 cs=some x):∃ (b:Bool) (s:ByteArray) (d:Bool) (t:ByteArray),cs=[.bool b,.string s,.bool d,.string t]∧∀ B,Wt 28 x.1 B→s.size≤B∧t.size≤B:=by
 obtain⟨xs,n,_,rfl,hl,hlen,hf⟩:=DataW.trod_struct underlying28 h;rw [cells_zrat] at hl
 match cs,hl with
 | [c0,c1,c2,c3],_ =>
  match xs,hlen with
  | [x0,x1],_ =>
   have h0:DataW.trod enc prog w base (fun _=>true) held n 26 (([c0,c1,c2,c3].drop 0).take (prog.cellsOf 26))=some x0:=hf 0 _ rfl;have h1:DataW.trod enc prog w base (fun _=>true) held n 26 (([c0,c1,c2,c3].drop 2).take (prog.cellsOf 26))=some x1:=hf 1 _ rfl;rw [cells_zint] at h0 h1;obtain⟨b,s,e0,g0⟩:=ygV h0;obtain⟨d,t,e1,g1⟩:=ygV h1;simp at e0 e1;refine ⟨b,s,d,t,by rw [e0.1,e0.2,e1.1,e1.2],fun B hB=>?_⟩;simp only [List.map_cons,List.map_nil,Wt] at hB;rw [zrat_w] at hB;exact ⟨g0 B fun n hn=>hB n (List.mem_append_left _ hn),g1 B fun n hn=>hB n (List.mem_append_right _ hn)⟩
theorem yju {cs:List Value} {x:DataW H × List MemPlace} (h:DataW.trod enc prog w base (fun _=>true) held fuel 30 cs=some x):∃ r:RawR,cs=r.cells∧∀ B,Wt 30 x.1 B→r.sz B:=by
 obtain⟨xs,n,_,rfl,hl,hlen,hf⟩:=DataW.trod_struct underlying30 h;rw [cells_zreal] at hl
 match cs,hl with
 | [c0,c1,c2,c3,c4,c5,c6,c7,c8],_ =>
  match xs,hlen with
  | [x0,x1,x2],_ =>
   have h0:DataW.trod enc prog w base (fun _=>true) held n 28 (([c0,c1,c2,c3,c4,c5,c6,c7,c8].drop 0).take (prog.cellsOf 28))=some x0:=hf 0 _ rfl;have h1:DataW.trod enc prog w base (fun _=>true) held n 28 (([c0,c1,c2,c3,c4,c5,c6,c7,c8].drop 4).take (prog.cellsOf 28))=some x1:=hf 1 _ rfl;have h2:DataW.trod enc prog w base (fun _=>true) held n 4 (([c0,c1,c2,c3,c4,c5,c6,c7,c8].drop 8).take (prog.cellsOf 4))=some x2:=hf 2 _ rfl;rw [cells_zrat] at h0 h1;rw [cells_bool] at h2;obtain⟨b,s,d,t,e0,g0⟩:=ygH h0;obtain⟨b',s',d',t',e1,g1⟩:=ygH h1;obtain⟨g,e2,_⟩:=DataW.trod_bool underlying4 h2;simp at e0 e1 e2;refine ⟨⟨b,s,d,t,b',s',d',t',g⟩,by simp only [RawR.cells];rw [e0.1,e0.2.1,e0.2.2.1,e0.2.2.2,e1.1,e1.2.1,e1.2.2.1,e1.2.2.2,e2],fun B hB=>?_⟩;simp only [List.map_cons,List.map_nil,Wt] at hB;rw [zreal_w] at hB;have a0:=g0 B fun n hn=>hB n (List.mem_append_left _ hn);have a1:=g1 B fun n hn=>hB n (List.mem_append_right _ (List.mem_append_left _ hn));exact ⟨a0.1,a0.2,a1.1,a1.2⟩
end
end
section
open Classical
theorem chkL_from':∀ (D:List (Iv K)) (b:Iv K),NormF D b.l→chkL (some b) (D.map RawI.of)=0
 | [],_,_=>rfl
 | i :: D,b,h=>by
  obtain⟨h1,h2,h3⟩:=h;rw [List.map_cons,yhp h2,if_neg,if_neg,chkL_from' D i h3]
  ·intro h
   rw [h] at h1;grind
  rintro (h|h)
  ·have:=h1
   rw [Bd.lt_def] at this;grind
  grind
theorem chkL_zero {D:List (Iv K)} (h:Norm D):chkL none (D.map RawI.of)=0:=by
 cases D with
 | nil=>rfl
 | cons i D=>rw [List.map_cons,yfv h.1,chkL_from' D i h.2]
theorem yij {d k:Nat} (h:Fit k (d:Int)):(dnS d).size≤k:=by
 unfold dnS;split
 ·exact Nat.zero_le _
 unfold Fit mgS at h;rwa [Int.natAbs_natCast] at h
theorem yiP (i:Iv K):(RawI.of i).sz 100000 :=
 ⟨⟨i.f.pt.2.2.1.1,yij i.f.pt.2.2.1.2,i.f.pt.2.2.2.1,yij i.f.pt.2.2.2.2⟩,⟨i.l.pt.2.2.1.1,yij i.l.pt.2.2.1.2,i.l.pt.2.2.2.1,yij i.l.pt.2.2.2.2⟩⟩
theorem iv_rir {w:World} {v:Value} {D:List (Iv K)} (h:IvR w v D):RIR w v (D.map RawI.of):=by
 rcases h with ⟨h1,h2⟩|⟨g,o,c,h1,h2,h3,h4⟩
 ·exact .inl ⟨h1,by rw [h2];rfl⟩
 refine .inr ⟨g,o,c,by rw [h1,List.length_map],by rw [List.length_map];exact h2,h3,fun i v hv=>h4 i v ?_⟩;rw [List.flatMap_map] at hv;exact hv
theorem RIR.riq {w:World} {v:Value} {l:List RawI} (h:RIR w v l):RIQ w v l:=by
 obtain⟨a,c,h1,_⟩:=h.form;exact ⟨a,c,h1,.inr h⟩
end
section
open Classical
theorem sequal_c (l m:List (Iv K)) (w:World) (sv tv:Value) (hr:IvR w sv l) (hs:IvR w tv m) (h9:l.length≤1000000000) (h8:m.length≤1000000000) :
  Calls prog 82 #[sv,tv] w fun e w'=>e = .returned (.bool (decide (l=m)))∧Keep [] w w':=by
 have HR:=jX hr;have HS:=jX hs;obtain⟨ao,ac,rfl,_⟩:=hr.form;obtain⟨bo,bc,rfl,_⟩:=hs.form;clear hr hs;by_cases hlen:l.length=m.length
 ·have hne:((l.length:Int) != (m.length:Int))=false:=by rw [hlen];simp
  have Hlen:=jX hlen;clear hlen;go_enter func82,ntmps82
  go_wp2_with fail;go_loopw [13] (fun c wr=>∃ k:Nat,k≤l.length∧c = .int .i64 (k:Int)∧l.take k=m.take k∧Keep [] w wr) (fun c _=>l.length-(intOf c).toNat)
  case atStart=>exact ⟨0,Nat.zero_le _,rfl,rfl,Keep.refl _ _⟩
  case round =>
   obtain⟨k,hk,rfl,heq,hkeep⟩:=hrel;have Heq:=jX heq;have HKr:=jX hkeep;clear heq hkeep;by_cases hlt:k<l.length
   ·have hlt2:k<m.length:=by rw [← Hlen.out];exact hlt
    obtain⟨g,o,rfl,hg,hat⟩:=IvR.elem (HR.out.later HKr.out) k hlt;obtain⟨g2,o2,rfl,hg2,hat2⟩:=IvR.elem (HS.out.later HKr.out) k hlt2;obtain⟨i,hi⟩:∃ i,l[k]=i:=⟨_,rfl⟩;obtain⟨j,hj⟩:∃ j,m[k]=j:=⟨_,rfl⟩;have Hi:=jX hi;have Hj:=jX hj;rw [hi] at hat;rw [hj] at hat2;clear hi hj;obtain⟨p,hp⟩:∃ p,o+k*20=p:=⟨_,rfl⟩;obtain⟨q,hq⟩:∃ q,o2+k*20=q:=⟨_,rfl⟩;rw [hp] at hat;rw [hq] at hat2;have HLa:=jX (hat.ld hg);have HLb:=jX (hat2.ld hg2);have HN:=jX (neqI_run i j);clear hat hat2;unfold iv at *;generalize iC i=I at *;generalize iC j=J at *;by_cases hij:i=j
    ·rw [decide_eq_true hij] at HN
     have Hij:=jX hij;clear hij;go_wp2_with fail;refine yad (by kernel_rfl) (by kernel_rfl) ?_
     repeat (first
      | go_big_quiet_skip
      | (go_big_quiet_want;first
       | (refine yaj _ _ _ (.agg I) rfl rfl (by rintro _ ⟨m,rfl⟩;exact HLa.out m) ?_;go_simp;go_big_quiet_on)|(refine yaj _ _ _ (.agg J) rfl rfl (by rintro _ ⟨m,rfl⟩;exact HLb.out m) ?_;go_simp;go_big_quiet_on)|(refine ygF _ _ _ _ _ _ _ (_) rfl rfl rfl eqI_g (by intro w;exact HN.out w) ?_;go_simp;go_big_quiet_on)
       | (go_big_quiet_op;first|go_big_quiet_on|go_big_quiet_call (first
        | fail))))
     refine wpQuiet_nil ?_;rintro w1 ⟨⟨_,hk_w1⟩,rfl⟩;clear HLa HLb HN;have Hk1:=jX hk_w1;clear hk_w1;go_wp2_with fail;go_roundw
     case rel=>exact ⟨k+1,by omega,congrArg (Value.int .i64) (by omega),by rw [List.take_succ_eq_append_getElem hlt,List.take_succ_eq_append_getElem hlt2,Heq.out,Hi.out,Hj.out,Hij.out],HKr.out.tz Hk1.out⟩
     case measure=>simp [intOf];omega
    rw [decide_eq_false hij] at HN;have Hij:=jX hij;clear hij;go_wp2_with fail;refine yad (by kernel_rfl) (by kernel_rfl) ?_
    repeat (first
     | go_big_quiet_skip
     | (go_big_quiet_want;first
      | (refine yaj _ _ _ (.agg I) rfl rfl (by rintro _ ⟨m,rfl⟩;exact HLa.out m) ?_;go_simp;go_big_quiet_on)|(refine yaj _ _ _ (.agg J) rfl rfl (by rintro _ ⟨m,rfl⟩;exact HLb.out m) ?_;go_simp;go_big_quiet_on)|(refine ygF _ _ _ _ _ _ _ (_) rfl rfl rfl eqI_g (by intro w;exact HN.out w) ?_;go_simp;go_big_quiet_on)
      | (go_big_quiet_op;first|go_big_quiet_on|go_big_quiet_call (first
       | fail))))
    refine wpQuiet_nil ?_;rintro w1 ⟨⟨_,hk_w1⟩,rfl⟩;clear HLa HLb HN;have Hk1:=jX hk_w1;clear hk_w1;go_wp2_with fail;go_ret
    have hno:l≠m:=fun e=>Hij.out (by rw [← Hi.out,← Hj.out];simp only [e]);exact ⟨by rw [decide_eq_false hno];rfl,HKr.out.tz Hk1.out⟩
   obtain rfl:k=l.length:=by omega
   go_wp2_with fail;go_ret
   have he:l=m:=by
    have:=Heq.out;rw [List.take_length,Hlen.out,List.take_length] at this;exact this
   exact ⟨by rw [decide_eq_true he];rfl,HKr.out⟩
 have hne:((l.length:Int) != (m.length:Int))=true:=by rw [bne_iff_ne];omega
 have hno:l≠m:=fun e=>hlen (by rw [e]);rw [decide_eq_false hno];clear hno hlen;go_enter func82,ntmps82
 go_wp2_with fail;go_ret
 exact ⟨rfl,Keep.refl _ _⟩
theorem pequal_c (l m:List (Iv K)) (w:World) (sv tv:Value) (hr:IvR w sv l) (hs:IvR w tv m) (h9:l.length≤1000000000) (h8:m.length≤1000000000) :
  Calls prog 20 #[sv,tv] w fun e w'=>e = .returned (.bool (decide (l=m)))∧Keep [] w w':=by
 have H:=jX (sequal_c l m w sv tv hr hs h9 h8);obtain⟨ao,ac,rfl,_⟩:=hr.form;obtain⟨bo,bc,rfl,_⟩:=hs.form;clear hr hs;generalize decide (l=m)=r at *;go_enter func20,ntmps20
 go_wp2_with fail;refine H.out.mono ?_;rintro e w1 ⟨rfl,hk⟩;dsimp only;have HK:=jX hk;clear hk H;go_wp2_with fail;go_ret
 exact ⟨rfl,HK.out⟩
end
section
open Classical
def Ls (w:World) (L:List (Value × List (Iv K))):Prop:=∀ p∈L,IvR w p.1 p.2∧Norm p.2∧p.2.length≤10000
def LPost (w:World) (L:List (Value × List (Iv K))) (m:List (Iv K)) (e:Ending) (w':World):Prop :=
 ∃ a c,e = .returned (.slice a m.length c)∧Below w.heap.size w w'∧Ls w' ((.slice a m.length c,m) :: L)
section
variable {w w':World} {L M:List (Value × List (Iv K))} {v u:Value} {a b l:List (Iv K)}
theorem Ls.nil (w:World):Ls w []:=fun _ h=>by cases h
theorem Ls.grow (h:Ls w L) (hb:Below w.heap.size w w'):Ls w' L:=fun p hp=>⟨(h p hp).1.laterB hb,(h p hp).2⟩
theorem Ls.cons (h:Ls w L) (hv:IvR w v l) (hn:Norm l) (h9:l.length≤10000):Ls w ((v,l) :: L):=fun p hp=>by
 rcases List.mem_cons.1 hp with rfl|hp
 ·exact ⟨hv,hn,h9⟩
 exact h p hp
theorem Ls.sub (h:Ls w L) (hs:∀ p∈M,p∈L):Ls w M:=fun p hp=>h p (hs p hp)
theorem Ls.val (h:Ls w L) (hv:(v,a)∈L):∀ i∈a,i.f<i.l:=(h _ hv).2.1.val
theorem yiH (h:Ls w L) {m:List (Iv K)} (hn:Norm m) (h9:m.length≤10000) {f:Nat} {args:Array Value} (hc:Calls prog f args w fun e w'=>∃ v,e = .returned v∧IvR w' v m∧Keep [] w w'):Calls prog f args w (LPost w L m) :=
 hc.mono fun e w' ⟨v,he,hv,hk⟩=>by
  obtain⟨a,c,rfl,_⟩:=hv.form;exact ⟨a,c,he,hk.bz,(h.grow hk.bz).cons hv hn h9⟩
theorem Ls.inter (h:Ls w L) (hv:(v,a)∈L) (hu:(u,b)∈L) (h9:(combK 2 a b).length≤10000):Calls prog 108 #[v,u] w (LPost w L (combK 2 a b)) :=
 yiH h (yau _ _ _) h9 (Intersect_p a b (h.val hv) (h.val hu) w v u (h _ hv).1 (h _ hu).1 (h _ hv).2.2 (h _ hu).2.2)
theorem Ls.shift (h:Ls w L) (hv:(v,a)∈L) {k:Nat} {q:Rat} (hk:k≤80000) (hsm:∀ i∈a,SmI k i) (hq:FitQ 24 q):Calls prog 39 #[v,rv q] w (LPost w L (a.map (mvI q))) :=
 yiH h (norm_mv hk hq hsm (h _ hv).2.1) (by rw [List.length_map];exact (h _ hv).2.2) (shift_p a q k hk hsm hq w v (h _ hv).1 (h _ hv).2.2)
def BPost (w:World) (r:Bool) (e:Ending) (w':World):Prop:=e = .returned (.bool r)∧Below w.heap.size w w'
theorem ygl {r:Bool} {f:Nat} {args:Array Value} (hc:Calls prog f args w fun e w'=>e = .returned (.bool r)∧Keep [] w w'):Calls prog f args w (BPost w r):=hc.mono fun e w' h=>⟨h.1,h.2.bz⟩
theorem Ls.peq (h:Ls w L) (hv:(v,a)∈L) (hu:(u,b)∈L):Calls prog 20 #[v,u] w (BPost w (decide (a=b))) :=
 ygl (pequal_c a b w v u (h _ hv).1 (h _ hu).1 (Nat.le_trans (h _ hv).2.2 (by decide)) (Nat.le_trans (h _ hu).2.2 (by decide)))
theorem Ls.cov (h:Ls w L) (hv:(v,a)∈L) (hu:(u,b)∈L):Calls prog 50 #[v,u] w (BPost w (decide (combK 3 b a=[]))) :=
 ygl (covers_c a b (h.val hv) (h.val hu) w v u (h _ hv).1 (h _ hu).1 (h _ hv).2.2 (h _ hu).2.2)
theorem Ls.cont (h:Ls w L) (hv:(v,a)∈L) (t:K):Calls prog 56 #[v,kv t] w (BPost w (holds a t)) :=
 ygl (yjd a t w v (h _ hv).1 (Nat.le_trans (h _ hv).2.2 (by decide)))
theorem Ls.chk (h:Ls w L) (hv:(v,a)∈L):Calls prog 19 #[v] w fun e w'=>e = .returned (.int .i64 0)∧Below w.heap.size w w':=by
 have:=pcheck_p (a.map RawI.of) (fun r hr=>by obtain⟨i,_,rfl⟩:=List.mem_map.1 hr;exact yiP i) w v (RIR.riq (iv_rir (h _ hv).1)) (by rw [List.length_map];exact Nat.le_trans (h _ hv).2.2 (by decide));rwa [chkL_zero (h _ hv).2.1] at this
end
theorem below_via {w w':World} (h:Below w.heap.size w w'):∃ b:World,b.heap.size=w.heap.size∧Keep [] b w'∧∀ u,Keep [] b u→Below w.heap.size w u:=by
 refine ⟨{ w' with heap:=w.heap },rfl,⟨rfl,rfl,rfl,h.size,Nat.le_refl _,fun i hi _=>h.block i hi⟩,fun u hk=>?_⟩;exact ⟨hk.os.trans h.os,hk.tape.trans h.tape,hk.output.trans h.output,hk.size,fun i hi=>hk.block i hi (by simp)⟩
structure OB {α:Type} (enc:α→List Value) (e:TypeId) (k:Nat) (w0 w:World) (v:Value) (l:List α):Prop where
 row:w.ownsRow 0 e k v l.length (l.flatMap enc)
 base:∀ g,v.ownBlock=some g→w0.heap.size≤g
 keep:Below w0.heap.size w0 w
section
variable {α:Type} {enc:α→List Value} {e:TypeId} {k:Nat} {w0 w w':World} {v:Value} {l:List α}
theorem OB.nil (w:World):OB enc e k w w (.slice none 0 0) []:=⟨⟨by simp,.inl ⟨rfl,rfl⟩⟩,by simp [Value.ownBlock],Below.refl _ _⟩
theorem OB.later (h:OB enc e k w0 w v l) (hb:Below w.heap.size w w'):OB enc e k w0 w' v l:=by
 refine ⟨⟨h.row.1,?_⟩,h.base,h.keep.trans (Below.mono hb h.keep.size)⟩;rcases h.row.2 with hn|⟨g,cap,cur,hv,hb1,hg,rest⟩
 ·exact .inl hn
 exact .inr ⟨g,cap,cur,hv,hb1,(hb.block g (yaa hg)).trans hg,rest⟩
theorem OB.oe (h:OB enc e k w0 w v l):∃ b,b.heap.size=w0.heap.size∧OE enc e k b w v l∧∀ w' v' l',OE enc e k b w' v' l'→OB enc e k w0 w' v' l':=by
 refine ⟨{ w with heap:=w0.heap },rfl,⟨h.row,h.base,⟨rfl,rfl,rfl,h.keep.size,Nat.le_refl _,fun i hi _=>h.keep.block i hi⟩⟩,fun w' v' l' h'=>⟨h'.row,h'.base,?_⟩⟩;have hk:=h'.keep;exact ⟨hk.os.trans h.keep.os,hk.tape.trans h.keep.tape,hk.output.trans h.keep.output,hk.size,fun i hi=>hk.block i hi (by simp)⟩
theorem OB.form (h:OB enc e k w0 w v l):∃ po pc,v = .slice po l.length pc:=yga h.row
theorem OB.read (h:OB enc e k w0 w v l):RowE enc w v l:=by
 obtain⟨b,_,h1,_⟩:=h.oe;exact h1.read
end
end
end Go.Proofs.YtpgffjjpiafhpaaGreatDoor
