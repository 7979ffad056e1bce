/- Parts of a proof: Vl Lb Ie Mf Fd Vp Fh. -/
import Derived.Test.YtpgffjjpiafhpaaGreatDoorS17
import Derived.Test.YtpgffjjpiafhpaaGreatDoorS16
import Derived.Test.YtpgffjjpiafhpaaGreatDoorS25
import Derived.Test.YtpgffjjpiafhpaaGreatDoorS15
import Derived.Test.YtpgffjjpiafhpaaGreatDoorS19
import Derived.Test.YtpgffjjpiafhpaaGreatDoorS21
import Derived.Test.YtpgffjjpiafhpaaGreatDoorS20
import Derived.Test.YtpgffjjpiafhpaaGreatDoorS09
set_option linter.unusedVariables false
set_option linter.unusedSimpArgs false
set_option linter.unusedSectionVars false
set_option maxRecDepth 100000
set_option maxHeartbeats 8000000
namespace Go.Proofs.YtpgffjjpiafhpaaGreatDoor
open Go.RowKit Tryz
section
open Go.RowKit Go.Sort Go.Shelf
section
variable {P:Program} {ρ:Ren} {α:Type} [Inhabited α] {enc:α→List Value} {k:Nat}
theorem yhZ {w:World} {g c n:Nat} {e:TypeId} {cur:Array Value} {l:List α} (hk:∀ x,(enc x).length=k) (hn:n=l.length) (hr:RowE enc w (.slice (some ⟨g,0,none⟩) n c) l) (hg:w.heap[g]? = some (.cells cur e (0,0))) (hnc:n≤c) (hcm:c≤maxLen) (hcs:cur.size=c*k) :
  w.ownsRow 0 e k (.slice (some ⟨g,0,none⟩) n c) n (l.flatMap enc):=by
 have hlen:(l.flatMap enc).length=n*k:=by rw [ydR enc hk,hn]
 refine ⟨hlen,.inr ⟨g,c,cur,rfl,Nat.zero_le _,hg,hnc,hcm,hcs,?_⟩⟩;rcases hr with ⟨hv,_⟩|⟨g',o',c',hv,_,_,hx⟩
 ·cases hv
 injection hv with e1 e2 e3;injection e1 with e1;injection e1 with e1 e4;subst e1 e4;have hle:n*k≤c*k:=Nat.mul_le_mul_right _ hnc;refine List.ext_getElem? fun i=>?_;by_cases hi:i<n*k
 ·rw [List.getElem?_take_of_lt hi]
  have hi2:i<(l.flatMap enc).length:=by omega
  have h1:=hx i _ (List.getElem?_eq_getElem hi2);rw [Nat.zero_add,yab hg] at h1;rw [List.getElem?_eq_getElem hi2,← h1];simp
 rw [List.getElem?_eq_none (by rw [List.length_take];omega),List.getElem?_eq_none (by omega)]
end
instance:Inhabited K:=⟨kZ⟩
theorem cmpK_lt (a b:K):cmpQ a.1 b.1<0↔a<b:=by
 rcases K.tri a b with ⟨h,g⟩|⟨h,g⟩|⟨h,g⟩
 ·rw [h];constructor
  ·intro h;exact absurd h (by decide)
  intro h;exact absurd (K.trans g h) (K.irrefl _)
 ·rw [h];exact ⟨fun _=>g,fun _=>by decide⟩
 rw [h];subst g;constructor
 ·intro h;exact absurd h (by decide)
 intro h;exact absurd h (K.irrefl _)
theorem rcmpK_c (x y:K) (w:World):Calls Tryz.prog 81 #[.agg (kcells x.1).toArray,.agg (kcells y.1).toArray] w fun e w'=>e = .returned (.int .i64 (cmpQ x.1 y.1))∧Keep [] w w' :=
 RCompare_c x.1 y.1 ⟨x.2.2.1.mono (by decide),x.2.2.2.mono (by decide)⟩ ⟨y.2.2.1.mono (by decide),y.2.2.2.mono (by decide)⟩ w
end
section
open Classical
theorem rawC_size (r:RawI):(prog.info? 32).map (·.size)=some r.C.size:=by
 obtain⟨i,z,hi,hz,hs,hb,hzc⟩:=iv_info;rw [hi];exact congrArg some hs
theorem yir (x:RawR):∀ v∈x.cells,v.oneCell'=true:=by
 intro v hv;simp only [RawR.cells,List.mem_cons,List.not_mem_nil,or_false] at hv;rcases hv with rfl|rfl|rfl|rfl|rfl|rfl|rfl|rfl|rfl<;>rfl
theorem rawC_ones (r:RawI):r.C.all (·.oneCell')=true:=all_oneCell_toArray (by
 intro v hv;unfold RawI.cells at hv;rcases List.mem_append.1 hv with hv|hv
 ·rcases List.mem_append.1 hv with hv|hv
  ·exact yir _ v hv
  exact yir _ v hv
 simp only [List.mem_cons,List.not_mem_nil,or_false] at hv
 rcases hv with rfl|rfl<;>rfl)
theorem cmpB_gt (a b:Bd K):0<cmpB a b↔b<a:=by
 rcases ydh a b with ⟨h,g⟩|⟨h,g⟩|⟨h,g⟩
 ·rw [h];exact ⟨fun _=>g,fun _=>by decide⟩
 ·rw [h];constructor
  ·intro h;exact absurd h (by decide)
  intro h;grind
 rw [h];subst g;constructor
 ·intro h;exact absurd h (by decide)
 intro h;grind
theorem cmpB_eq (a b:Bd K):cmpB a b=0↔a=b:=by
 rcases ydh a b with ⟨h,g⟩|⟨h,g⟩|⟨h,g⟩
 ·rw [h];constructor
  ·intro h;exact absurd h (by decide)
  rintro rfl;grind
 ·rw [h];constructor
  ·intro h;exact absurd h (by decide)
  rintro rfl;grind
 rw [h];exact ⟨fun _=>g,fun _=>rfl⟩
theorem pcheck_p (l:List RawI) (hs:∀ r∈l,r.sz 100000) (w:World) (sv:Value) (hr:RIQ w sv l) (h9:l.length≤1000000) :
  Calls prog 19 #[sv] w fun e w'=>e = .returned (.int .i64 (chkL none l))∧Below w.heap.size w w':=by
 have HR:=jX hr;have HCI:=jX (fun r (h:r∈l)=>pci_p r (hs r h));obtain⟨ao,ac,rfl,_⟩:=hr;clear hs;go_enter func19,ntmps19
 go_wp2_with fail;go_loopw [10] (fun c wr=>∃ (k:Nat) (p:Option (Iv K)),k≤l.length∧c = .int .i64 (k:Int)∧ChkAt l k p∧Below w.heap.size w wr) (fun c _=>l.length-(intOf c).toNat)
 case atStart=>exact ⟨0,none,Nat.zero_le _,rfl,ChkAt.start l,Below.refl _ _⟩
 case round =>
  obtain⟨k,pv,hk,rfl,hca,hb⟩:=hrel;have HA:=jX hca;have HB:=jX hb;clear hca hb;by_cases hlt:k<l.length
  ·obtain⟨g,o,rfl,hg,hat⟩:=RIQ.elem (HR.out.laterB HB.out) k hlt
   have HI:=jX (HCI.out l[k] (List.getElem_mem hlt));have HErr:=jX (HA.out.err hlt);obtain⟨r,hrk⟩:∃ r,l[k]=r:=⟨_,rfl⟩;have Hrk:=jX hrk;rw [hrk] at hat HI HErr;clear hrk;obtain⟨q,hq⟩:∃ q,o+k*20=q:=⟨_,rfl⟩;rw [hq] at hat;have HL:=jX (ydW wr g q r hat);have HBox:=jX (fun (u:World) (b:Nat) (h:u.heap[b]? = some (.cells r.C 32))=>ydW u b 0 r (ygq h));have HCs:=jX (And.intro (rawC_size r) (And.intro (rawC_ones r) (show r.C.size=20 from rfl)))
   have hrv:r.v = .agg r.C:=rfl;rw [hrv] at HI HL HBox;obtain⟨C,hC⟩:∃ C,r.C=C:=⟨_,rfl⟩;rw [hC] at HI HL HBox HCs;have HC:=jX hC;clear hat hrv hC;have hkc:(k:Int)<(l.length:Int):=by omega
   go_upto_region 3 with (fail)
   refine wp_region_lit ?_;refine wV (fun K hK=>?_);go_simp;refine hK _ ?_;clear hK K;refine wV (fun K hK=>?_);go_simp;refine hK _ ?_;clear hK K;refine wX (v:=.agg C) ⟨g,q,none⟩ (HL.out) (fun K hK=>?_);go_simp;refine hK _ ?_;clear hK K;refine wA (yfE _ _ _ rfl) (fun w1 gt e2 bgt hgt _ hk1 K hK=>?_);go_simp;refine hK _ ?_;clear hK K;refine wV (fun K hK=>?_);go_simp;refine hK _ ?_;clear hK K;refine wR gt C bgt HCs.out.1 (by rw [HCs.out.2.2];rfl) HCs.out.2.1 (fun w2 b4 k4 K hK=>?_);go_simp;refine hK _ ?_;clear hK K HL;have HW2:=jX (show Keep [] wr w2 from hk1.trans k4 (by simp;omega))
   have Bgt:=jX b4;have HB2:=jX (HB.out.trans (Below.mono HW2.out.bz HB.out.size));clear b4 k4 hk1 bgt;go_upto_region 4 with (fail)
   refine wp_region_lit ?_;refine wX (v:=.agg C) ⟨gt,0,none⟩ ((HBox.out w2 gt Bgt.out)) (fun K hK=>?_);go_simp;refine hK _ ?_;clear hK K;refine wpList_plain (by rfl) (fun K hK=>?_);refine yaf 17 #[.agg C] (by go_simp) ?_;refine (HI.out _).mono ?_;rintro e w3 ⟨rfl,hb3⟩;refine ⟨_,rfl,?_⟩;go_simp;refine hK _ _ ?_;clear hK K;have HB3:=jX (HB2.out.trans (Below.mono hb3 HB2.out.size));have B2gt:=jX ((hb3.block gt (yaa Bgt.out)).trans Bgt.out);clear Bgt;have Bgt:=B2gt;clear B2gt;clear hb3 HI;have HZ:=jX (@eI_zero r);obtain⟨e0,he0⟩:∃ e0,eI r=e0:=⟨_,rfl⟩;rw [he0] at HErr HZ;rw [he0];clear he0;by_cases he:e0=0
   ·subst he
    obtain⟨i,hi,hv⟩:=HZ.out rfl;have Hi:=jX (Hrk.out.trans hi);have Hv:=jX hv;have Hri:=jX hi;clear hi hv HZ HErr;rcases Nat.eq_zero_or_pos k with hk0|hk0
    ·subst hk0
     have HN:=jX (HA.out.zero hlt Hi.out Hv.out);go_wp2_with fail;go_roundw
     case rel=>exact ⟨1,some i,by omega,rfl,HN.out,HB3.out⟩
     case measure=>simp [intOf];omega
    obtain⟨j,hj⟩:∃ j,k=j+1:=⟨k-1,by omega⟩;have hjl:j<l.length:=by omega
    obtain⟨b,hb,n11,n5,nok⟩:∃ b:Iv K,l[j]'hjl=RawI.of b∧((i.f.pt<b.l.pt∨i.f<b.l)→chkL none l=11)∧(¬ (i.f.pt<b.l.pt∨i.f<b.l)→b.l=i.f→chkL none l=5)∧(¬ (i.f.pt<b.l.pt∨i.f<b.l)→b.l≠i.f→ChkAt l (k+1) (some i)):=by
     subst hj;exact ChkAt.next HA.out hlt Hi.out Hv.out
    obtain⟨g',o',e,hg',hat'⟩:=RIQ.elem (HR.out.laterB HB3.out) j hjl;injection e with e;injection e with e1 e2;subst e1 e2;rw [hb] at hat';obtain⟨qb,hqb⟩:∃ qb,o+j*20=qb:=⟨_,rfl⟩;rw [hqb] at hat';have HLb:=jX (ydW w3 g qb (RawI.of b) hat');have hCi:C=iC i:=by rw [← HC.out,Hri.out];rfl
    have N11:=jX n11;have N5:=jX n5;have Nok:=jX nok;have H1:=jX (yhl b);have H2:=jX (yeV i);have H3:=jX (yeM b.l i.f);have H4:=jX (yga i.f.pt b.l.pt);have HXf:Hid (∀ (u:World),u.heap[gt]? = some (.cells (iC i) 32)→(loadVar 30 ⟨gt,0,none⟩).run prog u = .ok (kv i.f.pt) u):=fun u h=>yar u gt 0 i.f.pt.1 (yap h).frm;have HXt:Hid (∀ (u:World) (gb:Nat),u.heap[gb]? = some (.cells (iC b) 32)→(loadVar 30 ⟨gb,9,none⟩).run prog u = .ok (kv b.l.pt) u):=fun u gb h=>yar u gb (0+9) b.l.pt.1 (yap h).upto;have HBb:=jX (fun (u:World) (gb:Nat) (h:u.heap[gb]? = some (.cells (iC b) 32))=>yaz u gb 0 b (yap h));have HSb:=jX (And.intro (ybE b) (And.intro (ybB b) (show (iC b).size=20 from rfl)))
    have hlt1:=cmpK_lt i.f.pt b.l.pt;have hgt1:=cmpB_gt b.l i.f;have heq1:=cmpB_eq b.l i.f;have Hlt1:=jX hlt1;have Hgt1:=jX hgt1;have Heq1:=jX heq1;rw [show (RawI.of b).v = .agg (iC b) from rfl] at HLb
    rw [← hCi] at HXf;rw [show iv i = .agg (iC i) from rfl,← hCi] at H2
    rw [show iv b = .agg (iC b) from rfl] at H1 HBb
    unfold bv at H1 H2 H3;unfold kv at HXf HXt H4;have hsub:(k:Int)-1=(j:Int):=by omega
    have hjc:(j:Int)<(l.length:Int):=by omega
    have hwj:IntKind.i64.wrap (j:Int)=(j:Int):=IntWalk.i64_in _ (by omega);have hj0:(0:Int)≤(j:Int):=by omega
    have hjt:(j:Int).toNat=j:=by omega
    have hke:((k:Int) == 0)=false:=by rw [beq_eq_false_iff_ne];omega
    clear hb n11 n5 nok hCi hlt1 hgt1 heq1 hat' hj;generalize (bcells i.f).toArray=BF at *;generalize (bcells b.l).toArray=BL at *;generalize kC i.f.pt=F1 at *;generalize kC b.l.pt=L1 at *;generalize iC b=CB at *;generalize cmpB b.l i.f=n2 at *;generalize cmpQ i.f.pt.1 b.l.pt.1=n1 at *;go_upto_region 8 with (fail)
    refine wp_region_lit ?_;refine wV (fun K hK=>?_);go_simp;refine hK _ ?_;clear hK K;refine wV (fun K hK=>?_);go_simp;refine hK _ ?_;clear hK K;refine wV (fun K hK=>?_);go_simp;refine hK _ ?_;clear hK K;refine wV (fun K hK=>?_);go_simp;refine hK _ ?_;clear hK K;refine wX (v:=.agg CB) ⟨g,qb,none⟩ (HLb.out) (fun K hK=>?_);go_simp;refine hK _ ?_;clear hK K;refine wA (yfE _ _ _ rfl) (fun w4 gb e2 bgb hgb _ hk4 K hK=>?_);go_simp;refine hK _ ?_;clear hK K;refine wR gb CB bgb HSb.out.1 (by rw [HSb.out.2.2];rfl) HSb.out.2.1 (fun w5 b5 k5 K hK=>?_);go_simp;refine hK _ ?_;clear hK K HLb;have HW5:=jX (show Keep [] w3 w5 from hk4.trans k5 (by simp;omega))
    have Bgb:=jX b5;have Bgt5:=jX (HW5.out.heap Bgt.out (by simp));have HB5:=jX (HB3.out.trans (Below.mono HW5.out.bz HB3.out.size));clear b5 k5 hk4 bgb;go_wp2_with fail;have HX1:Hid (∀ m:KW w5,(loadVar 32 ⟨gb,0,none⟩).run prog (Wk w5 m) = .ok (.agg CB) (Wk w5 m)):=fun m=>HBb.out _ gb (m.k.heap Bgb.out (by simp));have HX2:Hid (∀ m:KW w5,(loadVar 32 ⟨gt,0,none⟩).run prog (Wk w5 m) = .ok (.agg C) (Wk w5 m)):=fun m=>HBox.out _ gt (m.k.heap Bgt5.out (by simp));have Q1:Hid (∀ m:KW w5,Calls prog 78 #[.agg CB] (Wk w5 m) fun e w'=>e = .returned (.agg BL)∧∃ m,w'=Wk w5 m):=fun m=>qk m (H1.out _);have Q2:Hid (∀ m:KW w5,Calls prog 77 #[.agg C] (Wk w5 m) fun e w'=>e = .returned (.agg BF)∧∃ m,w'=Wk w5 m):=fun m=>qk m (H2.out _);have Q3:Hid (∀ m:KW w5,Calls prog 76 #[.agg BL,.agg BF] (Wk w5 m) fun e w'=>e = .returned (.int .i64 n2)∧∃ m,w'=Wk w5 m):=fun m=>qk m (H3.out _);refine yae (by kernel_rfl) (by kernel_rfl) ?_
    repeat (first
     | go_big_quiet_skip
     | (go_big_quiet_want;first
      | (refine yaj _ _ _ (.agg CB) rfl rfl (by rintro _ ⟨m,rfl⟩;exact HX1.out m) ?_;go_simp;go_big_quiet_on)|(refine yaj _ _ _ (.agg C) rfl rfl (by rintro _ ⟨m,rfl⟩;exact HX2.out m) ?_;go_simp;go_big_quiet_on)
      | (go_big_quiet_op;first|go_big_quiet_on|go_big_quiet_call (first
       | (go_at_call 78;with_reducible exact (Q1).out _)|(go_at_call 77;with_reducible exact (Q2).out _)|(go_at_call 76;with_reducible exact (Q3).out _)))))
    refine wpQuiet_nil ?_;rintro w6 ⟨⟨_,hk_w6⟩,rfl⟩;have Bgb6:=jX (hk_w6.heap Bgb.out (by simp));have Bgt6:=jX (hk_w6.heap Bgt5.out (by simp));have HB6:=jX (HB5.out.trans (Below.mono hk_w6.bz HB5.out.size));clear hk_w6 HX1 HX2 Q1 Q2 Q3 H1 H2 H3;go_upto_region 10 with (fail)
    refine wp_region_lit ?_;refine wV (fun K hK=>?_);go_simp;refine hK _ ?_;clear hK K;refine wX (v:=.agg F1) ⟨gt,0,none⟩ ((HXf.out w6 Bgt6.out)) (fun K hK=>?_);go_simp;refine hK _ ?_;clear hK K;refine wV (fun K hK=>?_);go_simp;refine hK _ ?_;clear hK K;refine wX (v:=.agg L1) ⟨gb,9,none⟩ ((HXt.out w6 gb Bgb6.out)) (fun K hK=>?_);go_simp;refine hK _ ?_;clear hK K;refine wpList_plain (by rfl) (fun K hK=>?_);refine yaf 81 #[.agg F1,.agg L1] (by go_simp) ?_;refine (H4.out _).mono ?_;rintro e w7 ⟨rfl,hk7⟩;refine ⟨_,rfl,?_⟩;go_simp;refine hK _ _ ?_;clear hK K;have HB7:=jX (HB6.out.trans (Below.mono hk7.bz HB6.out.size));clear hk7 H4;by_cases h1:n1<0
    ·have HE:=jX (N11.out (.inl (Hlt1.out.1 h1)))
     clear N11 N5 Nok;go_wp2_with fail;go_ret
     exact ⟨by rw [HE.out];rfl,HB7.out⟩
    by_cases h2:0<n2
    ·have HE:=jX (N11.out (.inr (Hgt1.out.1 h2)))
     clear N11 N5 Nok;go_wp2_with fail;go_ret
     exact ⟨by rw [HE.out];rfl,HB7.out⟩
    have hno:¬ (i.f.pt<b.l.pt∨i.f<b.l):=fun h=>h.elim (fun h=>h1 (Hlt1.out.2 h)) (fun h=>h2 (Hgt1.out.2 h));by_cases h3:n2=0
    ·have HE:=jX (N5.out hno (Heq1.out.1 h3))
     subst h3;clear N11 N5 Nok hno;go_wp2_with fail;go_ret
     exact ⟨by rw [HE.out];rfl,HB7.out⟩
    have HE:=jX (Nok.out hno (fun h=>h3 (Heq1.out.2 h)));have h3b:(n2 == 0)=false:=by rw [beq_eq_false_iff_ne];exact h3
    clear N11 N5 Nok hno;go_wp2_with fail;go_roundw
    case rel=>exact ⟨k+1,some i,by omega,congrArg (Value.int .i64) (by omega),HE.out,HB7.out⟩
    case measure=>simp [intOf];omega
   have hne:(e0 != 0)=true:=by rw [bne_iff_ne];exact he
   have HE:=jX (HErr.out he);clear HZ HErr he;go_wp2_with fail;go_ret
   exact ⟨by rw [HE.out];rfl,HB3.out⟩
  obtain rfl:k=l.length:=by omega
  have HD:=jX (HA.out.done);go_wp2_with fail;go_ret
  exact ⟨by rw [HD.out];rfl,HB.out⟩
end
section
open Classical
theorem chkL_from':∀ (D:List (Iv K)) (b:Iv K),NormF D b.l→chkL (some b) (D.map RawI.of)=0
 | [],_,_=>rfl
 | i :: D,b,h=>by
  obtain⟨h1,h2,h3⟩:=h;rw [List.map_cons,yho h2,if_neg,if_neg,chkL_from' D i h3]
  ·intro h
   rw [h] at h1;grind
  rintro (h|h)
  ·have:=h1
   rw [Bd.lt_def] at this;grind
  grind
theorem chkL_zero {D:List (Iv K)} (h:Norm D):chkL none (D.map RawI.of)=0:=by
 cases D with
 | nil=>rfl
 | cons i D=>rw [List.map_cons,yfN h.1,chkL_from' D i h.2]
theorem yiI {d k:Nat} (h:Fit k (d:Int)):(dnS d).size≤k:=by
 unfold dnS;split
 ·exact Nat.zero_le _
 unfold Fit mgS at h;rwa [Int.natAbs_natCast] at h
theorem yiG (i:Iv K):(RawI.of i).sz 100000 :=
 ⟨⟨i.f.pt.2.2.1.1,yiI i.f.pt.2.2.1.2,i.f.pt.2.2.2.1,yiI i.f.pt.2.2.2.2⟩,⟨i.l.pt.2.2.1.1,yiI i.l.pt.2.2.1.2,i.l.pt.2.2.2.1,yiI i.l.pt.2.2.2.2⟩⟩
theorem iv_rir {w:World} {v:Value} {D:List (Iv K)} (h:IvR w v D):RIR w v (D.map RawI.of):=by
 rcases h with ⟨h1,h2⟩|⟨g,o,c,h1,h2,h3,h4⟩
 ·exact .inl ⟨h1,by rw [h2];rfl⟩
 refine .inr ⟨g,o,c,by rw [h1,List.length_map],by rw [List.length_map];exact h2,h3,fun i v hv=>h4 i v ?_⟩;rw [List.flatMap_map] at hv;exact hv
theorem RIR.riq {w:World} {v:Value} {l:List RawI} (h:RIR w v l):RIQ w v l:=by
 obtain⟨a,c,h1,_⟩:=h.form;exact ⟨a,c,h1,.inr h⟩
end
section
open Classical
theorem sequal_c (l m:List (Iv K)) (w:World) (sv tv:Value) (hr:IvR w sv l) (hs:IvR w tv m) (h9:l.length≤1000000000) (h8:m.length≤1000000000) :
  Calls prog 82 #[sv,tv] w fun e w'=>e = .returned (.bool (decide (l=m)))∧Keep [] w w':=by
 have HR:=jX hr;have HS:=jX hs;obtain⟨ao,ac,rfl,_⟩:=hr.form;obtain⟨bo,bc,rfl,_⟩:=hs.form;clear hr hs;by_cases hlen:l.length=m.length
 ·have hne:((l.length:Int) != (m.length:Int))=false:=by rw [hlen];simp
  have Hlen:=jX hlen;clear hlen;go_enter func82,ntmps82
  go_wp2_with fail;go_loopw [13] (fun c wr=>∃ k:Nat,k≤l.length∧c = .int .i64 (k:Int)∧l.take k=m.take k∧Keep [] w wr) (fun c _=>l.length-(intOf c).toNat)
  case atStart=>exact ⟨0,Nat.zero_le _,rfl,rfl,Keep.refl _ _⟩
  case round =>
   obtain⟨k,hk,rfl,heq,hkeep⟩:=hrel;have Heq:=jX heq;have HKr:=jX hkeep;clear heq hkeep;by_cases hlt:k<l.length
   ·have hlt2:k<m.length:=by rw [← Hlen.out];exact hlt
    obtain⟨g,o,rfl,hg,hat⟩:=IvR.elem (HR.out.later HKr.out) k hlt;obtain⟨g2,o2,rfl,hg2,hat2⟩:=IvR.elem (HS.out.later HKr.out) k hlt2;obtain⟨i,hi⟩:∃ i,l[k]=i:=⟨_,rfl⟩;obtain⟨j,hj⟩:∃ j,m[k]=j:=⟨_,rfl⟩;have Hi:=jX hi;have Hj:=jX hj;rw [hi] at hat;rw [hj] at hat2;clear hi hj;obtain⟨p,hp⟩:∃ p,o+k*20=p:=⟨_,rfl⟩;obtain⟨q,hq⟩:∃ q,o2+k*20=q:=⟨_,rfl⟩;rw [hp] at hat;rw [hq] at hat2;have HLa:=jX (hat.ld hg);have HLb:=jX (hat2.ld hg2);have HN:=jX (neqI_run i j);clear hat hat2;unfold iv at *;generalize iC i=I at *;generalize iC j=J at *;by_cases hij:i=j
    ·rw [decide_eq_true hij] at HN
     have Hij:=jX hij;clear hij;go_wp2_with fail;refine yae (by kernel_rfl) (by kernel_rfl) ?_
     repeat (first
      | go_big_quiet_skip
      | (go_big_quiet_want;first
       | (refine yaj _ _ _ (.agg I) rfl rfl (by rintro _ ⟨m,rfl⟩;exact HLa.out m) ?_;go_simp;go_big_quiet_on)|(refine yaj _ _ _ (.agg J) rfl rfl (by rintro _ ⟨m,rfl⟩;exact HLb.out m) ?_;go_simp;go_big_quiet_on)|(refine yhu _ _ _ _ _ _ _ (_) rfl rfl rfl eqI_g (by intro w;exact HN.out w) ?_;go_simp;go_big_quiet_on)
       | (go_big_quiet_op;first|go_big_quiet_on|go_big_quiet_call (first
        | fail))))
     refine wpQuiet_nil ?_;rintro w1 ⟨⟨_,hk_w1⟩,rfl⟩;clear HLa HLb HN;have Hk1:=jX hk_w1;clear hk_w1;go_wp2_with fail;go_roundw
     case rel=>exact ⟨k+1,by omega,congrArg (Value.int .i64) (by omega),by rw [List.take_succ_eq_append_getElem hlt,List.take_succ_eq_append_getElem hlt2,Heq.out,Hi.out,Hj.out,Hij.out],HKr.out.tz Hk1.out⟩
     case measure=>simp [intOf];omega
    rw [decide_eq_false hij] at HN;have Hij:=jX hij;clear hij;go_wp2_with fail;refine yae (by kernel_rfl) (by kernel_rfl) ?_
    repeat (first
     | go_big_quiet_skip
     | (go_big_quiet_want;first
      | (refine yaj _ _ _ (.agg I) rfl rfl (by rintro _ ⟨m,rfl⟩;exact HLa.out m) ?_;go_simp;go_big_quiet_on)|(refine yaj _ _ _ (.agg J) rfl rfl (by rintro _ ⟨m,rfl⟩;exact HLb.out m) ?_;go_simp;go_big_quiet_on)|(refine yhu _ _ _ _ _ _ _ (_) rfl rfl rfl eqI_g (by intro w;exact HN.out w) ?_;go_simp;go_big_quiet_on)
      | (go_big_quiet_op;first|go_big_quiet_on|go_big_quiet_call (first
       | fail))))
    refine wpQuiet_nil ?_;rintro w1 ⟨⟨_,hk_w1⟩,rfl⟩;clear HLa HLb HN;have Hk1:=jX hk_w1;clear hk_w1;go_wp2_with fail;go_ret
    have hno:l≠m:=fun e=>Hij.out (by rw [← Hi.out,← Hj.out];simp only [e]);exact ⟨by rw [decide_eq_false hno];rfl,HKr.out.tz Hk1.out⟩
   obtain rfl:k=l.length:=by omega
   go_wp2_with fail;go_ret
   have he:l=m:=by
    have:=Heq.out;rw [List.take_length,Hlen.out,List.take_length] at this;exact this
   exact ⟨by rw [decide_eq_true he];rfl,HKr.out⟩
 have hne:((l.length:Int) != (m.length:Int))=true:=by rw [bne_iff_ne];omega
 have hno:l≠m:=fun e=>hlen (by rw [e]);rw [decide_eq_false hno];clear hno hlen;go_enter func82,ntmps82
 go_wp2_with fail;go_ret
 exact ⟨rfl,Keep.refl _ _⟩
theorem pequal_c (l m:List (Iv K)) (w:World) (sv tv:Value) (hr:IvR w sv l) (hs:IvR w tv m) (h9:l.length≤1000000000) (h8:m.length≤1000000000) :
  Calls prog 20 #[sv,tv] w fun e w'=>e = .returned (.bool (decide (l=m)))∧Keep [] w w':=by
 have H:=jX (sequal_c l m w sv tv hr hs h9 h8);obtain⟨ao,ac,rfl,_⟩:=hr.form;obtain⟨bo,bc,rfl,_⟩:=hs.form;clear hr hs;generalize decide (l=m)=r at *;go_enter func20,ntmps20
 go_wp2_with fail;refine H.out.mono ?_;rintro e w1 ⟨rfl,hk⟩;dsimp only;have HK:=jX hk;clear hk H;go_wp2_with fail;go_ret
 exact ⟨rfl,HK.out⟩
end
section
open Classical
def Ls (w:World) (L:List (Value × List (Iv K))):Prop:=∀ p∈L,IvR w p.1 p.2∧Norm p.2∧p.2.length≤10000
def LPost (w:World) (L:List (Value × List (Iv K))) (m:List (Iv K)) (e:Ending) (w':World):Prop :=
 ∃ a c,e = .returned (.slice a m.length c)∧Below w.heap.size w w'∧Ls w' ((.slice a m.length c,m) :: L)
section
variable {w w':World} {L M:List (Value × List (Iv K))} {v u:Value} {a b l:List (Iv K)}
theorem Ls.nil (w:World):Ls w []:=fun _ h=>by cases h
theorem Ls.grow (h:Ls w L) (hb:Below w.heap.size w w'):Ls w' L:=fun p hp=>⟨(h p hp).1.laterB hb,(h p hp).2⟩
theorem Ls.cons (h:Ls w L) (hv:IvR w v l) (hn:Norm l) (h9:l.length≤10000):Ls w ((v,l) :: L):=fun p hp=>by
 rcases List.mem_cons.1 hp with rfl|hp
 ·exact ⟨hv,hn,h9⟩
 exact h p hp
theorem Ls.sub (h:Ls w L) (hs:∀ p∈M,p∈L):Ls w M:=fun p hp=>h p (hs p hp)
theorem Ls.val (h:Ls w L) (hv:(v,a)∈L):∀ i∈a,i.f<i.l:=(h _ hv).2.1.val
theorem yiq (h:Ls w L) {m:List (Iv K)} (hn:Norm m) (h9:m.length≤10000) {f:Nat} {args:Array Value} (hc:Calls prog f args w fun e w'=>∃ v,e = .returned v∧IvR w' v m∧Keep [] w w'):Calls prog f args w (LPost w L m) :=
 hc.mono fun e w' ⟨v,he,hv,hk⟩=>by
  obtain⟨a,c,rfl,_⟩:=hv.form;exact ⟨a,c,he,hk.bz,(h.grow hk.bz).cons hv hn h9⟩
theorem Ls.inter (h:Ls w L) (hv:(v,a)∈L) (hu:(u,b)∈L) (h9:(combK 2 a b).length≤10000):Calls prog 108 #[v,u] w (LPost w L (combK 2 a b)) :=
 yiq h (yaq _ _ _) h9 (Intersect_p a b (h.val hv) (h.val hu) w v u (h _ hv).1 (h _ hu).1 (h _ hv).2.2 (h _ hu).2.2)
theorem Ls.shift (h:Ls w L) (hv:(v,a)∈L) {k:Nat} {q:Rat} (hk:k≤80000) (hsm:∀ i∈a,SmI k i) (hq:FitQ 24 q):Calls prog 39 #[v,rv q] w (LPost w L (a.map (mvI q))) :=
 yiq h (norm_mv hk hq hsm (h _ hv).2.1) (by rw [List.length_map];exact (h _ hv).2.2) (shift_p a q k hk hsm hq w v (h _ hv).1 (h _ hv).2.2)
def BPost (w:World) (r:Bool) (e:Ending) (w':World):Prop:=e = .returned (.bool r)∧Below w.heap.size w w'
theorem ygo {r:Bool} {f:Nat} {args:Array Value} (hc:Calls prog f args w fun e w'=>e = .returned (.bool r)∧Keep [] w w'):Calls prog f args w (BPost w r):=hc.mono fun e w' h=>⟨h.1,h.2.bz⟩
theorem Ls.peq (h:Ls w L) (hv:(v,a)∈L) (hu:(u,b)∈L):Calls prog 20 #[v,u] w (BPost w (decide (a=b))) :=
 ygo (pequal_c a b w v u (h _ hv).1 (h _ hu).1 (Nat.le_trans (h _ hv).2.2 (by decide)) (Nat.le_trans (h _ hu).2.2 (by decide)))
theorem Ls.cov (h:Ls w L) (hv:(v,a)∈L) (hu:(u,b)∈L):Calls prog 50 #[v,u] w (BPost w (decide (combK 3 b a=[]))) :=
 ygo (yiD a b (h.val hv) (h.val hu) w v u (h _ hv).1 (h _ hu).1 (h _ hv).2.2 (h _ hu).2.2)
theorem Ls.cont (h:Ls w L) (hv:(v,a)∈L) (t:K):Calls prog 56 #[v,kv t] w (BPost w (holds a t)) :=
 ygo (yjz a t w v (h _ hv).1 (Nat.le_trans (h _ hv).2.2 (by decide)))
theorem Ls.chk (h:Ls w L) (hv:(v,a)∈L):Calls prog 19 #[v] w fun e w'=>e = .returned (.int .i64 0)∧Below w.heap.size w w':=by
 have:=pcheck_p (a.map RawI.of) (fun r hr=>by obtain⟨i,_,rfl⟩:=List.mem_map.1 hr;exact yiG i) w v (RIR.riq (iv_rir (h _ hv).1)) (by rw [List.length_map];exact Nat.le_trans (h _ hv).2.2 (by decide));rwa [chkL_zero (h _ hv).2.1] at this
end
theorem below_via {w w':World} (h:Below w.heap.size w w'):∃ b:World,b.heap.size=w.heap.size∧Keep [] b w'∧∀ u,Keep [] b u→Below w.heap.size w u:=by
 refine ⟨{ w' with heap:=w.heap },rfl,⟨rfl,rfl,rfl,h.size,Nat.le_refl _,fun i hi _=>h.block i hi⟩,fun u hk=>?_⟩;exact ⟨hk.os.trans h.os,hk.tape.trans h.tape,hk.output.trans h.output,hk.size,fun i hi=>hk.block i hi (by simp)⟩
structure OB {α:Type} (enc:α→List Value) (e:TypeId) (k:Nat) (w0 w:World) (v:Value) (l:List α):Prop where
 row:w.ownsRow 0 e k v l.length (l.flatMap enc)
 base:∀ g,v.ownBlock=some g→w0.heap.size≤g
 keep:Below w0.heap.size w0 w
section
variable {α:Type} {enc:α→List Value} {e:TypeId} {k:Nat} {w0 w w':World} {v:Value} {l:List α}
theorem OB.nil (w:World):OB enc e k w w (.slice none 0 0) []:=⟨⟨by simp,.inl ⟨rfl,rfl⟩⟩,by simp [Value.ownBlock],Below.refl _ _⟩
theorem OB.later (h:OB enc e k w0 w v l) (hb:Below w.heap.size w w'):OB enc e k w0 w' v l:=by
 refine ⟨⟨h.row.1,?_⟩,h.base,h.keep.trans (Below.mono hb h.keep.size)⟩;rcases h.row.2 with hn|⟨g,cap,cur,hv,hb1,hg,rest⟩
 ·exact .inl hn
 exact .inr ⟨g,cap,cur,hv,hb1,(hb.block g (yaa hg)).trans hg,rest⟩
theorem OB.oe (h:OB enc e k w0 w v l):∃ b,b.heap.size=w0.heap.size∧OE enc e k b w v l∧∀ w' v' l',OE enc e k b w' v' l'→OB enc e k w0 w' v' l':=by
 refine ⟨{ w with heap:=w0.heap },rfl,⟨h.row,h.base,⟨rfl,rfl,rfl,h.keep.size,Nat.le_refl _,fun i hi _=>h.keep.block i hi⟩⟩,fun w' v' l' h'=>⟨h'.row,h'.base,?_⟩⟩;have hk:=h'.keep;exact ⟨hk.os.trans h.keep.os,hk.tape.trans h.keep.tape,hk.output.trans h.keep.output,hk.size,fun i hi=>hk.block i hi (by simp)⟩
theorem OB.form (h:OB enc e k w0 w v l):∃ po pc,v = .slice po l.length pc:=yeK h.row
theorem OB.read (h:OB enc e k w0 w v l):RowE enc w v l:=by
 obtain⟨b,_,h1,_⟩:=h.oe;exact h1.read
end
end
section
open Classical
theorem put18 (a1 a2 a3 a4 a5 a6 a7 a8 a9 b1 b2 b3 b4 b5 b6 b7 b8 b9 c1 c2 c3 c4 c5 c6 c7 c8 c9 d1 d2 d3 d4 d5 d6 d7 d8 d9 o e:Value):ybu (ybu #[a1,a2,a3,a4,a5,a6,a7,a8,a9,b1,b2,b3,b4,b5,b6,b7,b8,b9,o,e] 0 [c1,c2,c3,c4,c5,c6,c7,c8,c9]) 9 [d1,d2,d3,d4,d5,d6,d7,d8,d9] = #[c1,c2,c3,c4,c5,c6,c7,c8,c9,d1,d2,d3,d4,d5,d6,d7,d8,d9,o,e]:=by kernel_rfl
theorem put_iv (s t:Iv K) (hf:t.f.beh=s.f.beh) (hl:t.l.beh=s.l.beh):ybu (ybu (iC s) 0 (kC t.f.pt).toList) 9 (kC t.l.pt).toList=iC t:=by
 have e:iC t = #[.bool (sgB t.f.pt.1.p.num),.string (mgS t.f.pt.1.p.num),.bool false,.string (dnS t.f.pt.1.p.den),.bool (sgB t.f.pt.1.r.num),.string (mgS t.f.pt.1.r.num),.bool false,.string (dnS t.f.pt.1.r.den),.bool t.f.pt.1.neg,.bool (sgB t.l.pt.1.p.num),.string (mgS t.l.pt.1.p.num),.bool false,.string (dnS t.l.pt.1.p.den),.bool (sgB t.l.pt.1.r.num),.string (mgS t.l.pt.1.r.num),.bool false,.string (dnS t.l.pt.1.r.den),.bool t.l.pt.1.neg,.bool s.f.beh,.bool (!s.l.beh)]:=by rw [← hf,← hl];rfl
 rw [e];exact put18 _ _ _ _ _ _ _ _ _ _ _ _ _ _ _ _ _ _ _ _ _ _ _ _ _ _ _ _ _ _ _ _ _ _ _ _ _ _
end
section
open Classical
theorem put9 (a1 a2 a3 a4 a5 a6 a7 a8 a9 b1 b2 b3 b4 b5 b6 b7 b8 b9 d1 d2 d3 d4 d5 d6 d7 d8 d9 c1 c2:Value):ybu #[a1,a2,a3,a4,a5,a6,a7,a8,a9,b1,b2,b3,b4,b5,b6,b7,b8,b9,c1,c2] 9 [d1,d2,d3,d4,d5,d6,d7,d8,d9] = #[a1,a2,a3,a4,a5,a6,a7,a8,a9,d1,d2,d3,d4,d5,d6,d7,d8,d9,c1,c2]:=by kernel_rfl
theorem putTo (s t:Iv K) (hf:t.f=s.f) (hl:t.l.beh=s.l.beh):ybu (iC s) 9 (kC t.l.pt).toList=iC t:=by
 have e:iC t = #[.bool (sgB s.f.pt.1.p.num),.string (mgS s.f.pt.1.p.num),.bool false,.string (dnS s.f.pt.1.p.den),.bool (sgB s.f.pt.1.r.num),.string (mgS s.f.pt.1.r.num),.bool false,.string (dnS s.f.pt.1.r.den),.bool s.f.pt.1.neg,.bool (sgB t.l.pt.1.p.num),.string (mgS t.l.pt.1.p.num),.bool false,.string (dnS t.l.pt.1.p.den),.bool (sgB t.l.pt.1.r.num),.string (mgS t.l.pt.1.r.num),.bool false,.string (dnS t.l.pt.1.r.den),.bool t.l.pt.1.neg,.bool s.f.beh,.bool (!s.l.beh)]:=by rw [← hf,← hl];rfl
 rw [e];exact put9 _ _ _ _ _ _ _ _ _ _ _ _ _ _ _ _ _ _ _ _ _ _ _ _ _ _ _ _ _
theorem sweep1_c (s:Iv K) (a b:Rat) (k0:Nat) (hk0:k0≤80000) (hs:SmI k0 s) (ha:FitQ 24 a) (hb:FitQ 24 b) (w:World) (xa xb:Nat) (h1:w.heap[xa]? = some (.cells (rC a) 28)) (h2:w.heap[xb]? = some (.cells (rC b) 28)) :
  Calls prog 117 #[iv s,.pointer (some ⟨xa,0,none⟩),.pointer (some ⟨xb,0,none⟩)] w fun e w'=>e = .returned (.tuple #[iv (swpI a b s),.bool true])∧Keep [] w w':=by
 have H1:=jX (ybM hs.1 (by omega) ha);have H2:=jX (ybM hs.2 (by omega) hb);have F1:=jX (ybg (mvK a s.f.pt));have F2:=jX (ybg (mvK b s.l.pt));have HPut:Hid (ybu (ybu (iC s) 0 (kC (mvK a s.f.pt)).toList) 9 (kC (mvK b s.l.pt)).toList=iC (swpI a b s)):=put_iv s (swpI a b s) rfl rfl;have HX1:=jX h1;have HX2:=jX h2;rw [show iv s = .agg (iC s) from rfl]
 clear hs ha hb h1 h2;obtain⟨t,ht⟩:∃ t,swpI a b s=t:=⟨_,rfl⟩;rw [ht] at HPut ⊢;clear ht;generalize kC (mvK a s.f.pt)=M1 at *;generalize kC (mvK b s.l.pt)=M2 at *;go_enter func117,ntmps117
 go_upto_region 1 with (fail)
 obtain⟨W,ga,gb,hW,ega,egb,Bga,Bgb,hga,hgb,hgW,HkW⟩:=al2h w (.cells (iC s) 32) (.cells #[.bool false,.string ⟨#[]⟩,.bool false,.string ⟨#[]⟩,.bool false,.string ⟨#[]⟩,.bool false,.string ⟨#[]⟩,.bool false,.bool false,.string ⟨#[]⟩,.bool false,.string ⟨#[]⟩,.bool false,.string ⟨#[]⟩,.bool false,.string ⟨#[]⟩,.bool false,.bool false,.bool false] 32);rw [← hW];try rw [egb]
 try rw [ega]
 clear hW ega egb;have HXf:=jX ((yap Bga.out).ldf (yaa Bga.out));have HXt:=jX ((yap Bga.out).ldt (yaa Bga.out));have HXa:=jX (kw_q (HkW.out.heap HX1.out (by simp)));have HXb:=jX (kw_q (HkW.out.heap HX2.out (by simp)));rw [show kv s.f.pt = .agg (kC s.f.pt) from rfl] at HXf
 rw [show kv s.l.pt = .agg (kC s.l.pt) from rfl] at HXt
 rw [yam] at HXa HXb;have HCs:Hid ((iC s).size=20):=rfl;generalize iC s=C0 at *;generalize kC s.f.pt=F at *;generalize kC s.l.pt=L at *;have Q1:Hid (∀ m:KW W,Calls prog 54 #[.agg F,.agg (rC a)] (Wk W m) fun e w'=>e = .returned (.agg M1)∧∃ m,w'=Wk W m):=fun m=>qk m (H1.out _);have Q2:Hid (∀ m:KW W,Calls prog 54 #[.agg L,.agg (rC b)] (Wk W m) fun e w'=>e = .returned (.agg M2)∧∃ m,w'=Wk W m):=fun m=>qk m (H2.out _);clear H1 H2;refine yah 9 (by kernel_rfl) (by kernel_rfl) ?_;simp only [List.take_succ_cons,List.take_zero,List.drop_succ_cons,List.drop_zero]
 repeat (first
  | go_big_quiet_skip
  | (go_big_quiet_want;first
   | (refine yaj _ _ _ (.agg F) rfl rfl (by rintro _ ⟨m,rfl⟩;exact HXf.out m) ?_;go_simp;go_big_quiet_on)|(refine yaj _ _ _ (.agg L) rfl rfl (by rintro _ ⟨m,rfl⟩;exact HXt.out m) ?_;go_simp;go_big_quiet_on)|(refine yaj _ _ _ (.agg (rC a)) rfl rfl (by rintro _ ⟨m,rfl⟩;exact HXa.out m) ?_;go_simp;go_big_quiet_on)|(refine yaj _ _ _ (.agg (rC b)) rfl rfl (by rintro _ ⟨m,rfl⟩;exact HXb.out m) ?_;go_simp;go_big_quiet_on)
   | (go_big_quiet_op;first|go_big_quiet_on|go_big_quiet_call (first
    | (go_at_call 54;with_reducible exact (Q1).out _)|(go_at_call 54;with_reducible exact (Q2).out _)))))
 refine wpQuiet_nil ?_;rintro w3 ⟨⟨_,hk_w3⟩,rfl⟩;have Bg3:=jX (hk_w3.heap Bga.out (by simp));have Bgb3:=jX (hk_w3.heap Bgb.out (by simp));have HW3:=jX (HkW.out.tz hk_w3);clear hk_w3 HXf HXt HXa HXb Q1 Q2 Bga Bgb;refine yaI (by rfl) _ _ _ rfl ga 0 M1 rfl rfl (yaZ Bg3.out _ _ (by rw [HCs.out,F1.out.2.1];decide)) (by rw [F1.out.2.1];exact k_size) F1.out.2.2 (fun K hK=>?_);obtain⟨b4,k4⟩:=yav M1.toList 0 C0 w3 Bg3.out;generalize World.setCells w3 ga 0 M1.toList=w4 at *;go_simp;refine hK _ _ ?_;clear hK K;refine wV (fun K hK=>?_);go_simp;refine hK _ ?_;clear hK K;refine yaI (by rfl) _ _ _ rfl ga 9 M2 rfl rfl (yaZ b4 _ _ (by rw [putAt_size,HCs.out,F2.out.2.1];decide)) (by rw [F2.out.2.1];exact k_size) F2.out.2.2 (fun K hK=>?_);obtain⟨b5,k5⟩:=yav M2.toList 9 _ w4 b4;generalize World.setCells w4 ga 9 M2.toList=w5 at *;go_simp;refine hK _ _ ?_;clear hK K;rw [HPut.out] at b5;have HW5:=jX (show Keep [] w w5 from (HW3.out.trans k4 (by simp;omega)).trans k5 (by simp;omega))
 have Bg5:=jX (k5.heap (k4.heap Bgb3.out (by simp;omega)) (by simp;omega));have HLt:=jX (yaz w5 ga 0 t (yap b5));clear b4 b5 k4 k5 HW3 Bg3 Bgb3;go_upto_region 2 with (fail)
 refine wp_region_lit ?_;refine wX (v:=iv t) ⟨ga,0,none⟩ (HLt.out) (fun K hK=>?_);go_simp;refine hK _ ?_;clear hK K;refine wR gb (iC t) Bg5.out (by exact ybE t) (by rfl) (ybB t) (fun w6 b6 k6 K hK=>?_);go_simp;refine hK _ ?_;clear hK K;have HW6:=jX (show Keep [] w w6 from HW5.out.trans k6 (by simp;omega))
 have HLr:=yaz w6 gb 0 t (yap b6);clear k6 b6 HW5;go_wp2_with fail;refine bodyPost_ret (v:=.tuple #[iv t,.bool true]) ?_ rfl ⟨rfl,HW6.out⟩;rw [results_cell_tmp rfl];show ((loadVar 32 ⟨gb,0,none⟩).run prog w6).andThen _=_
 rw [HLr];rfl
theorem erode1_c (s:Iv K) (q:Rat) (k0:Nat) (hk0:k0≤80000) (hs:SmI k0 s) (hq:FitQ 24 q) (w:World) (xa:Nat) (h1:w.heap[xa]? = some (.cells (rC q) 28)) :
  Calls prog 113 #[iv s,.pointer (some ⟨xa,0,none⟩)] w fun e w'=>e = .returned (.tuple #[iv (eroI q s),.bool (okI (eroI q s))])∧Below w.heap.size w w':=by
 have H1:=jX (ybM hs.2 (by omega) hq.neg);have H0:=jX (QNeg_c q);have H2:=jX (pci_p (RawI.of (eroI q s)) (yiG _));have F2:=jX (ybg (mvK (-q) s.l.pt));have HPut:Hid (ybu (iC s) 9 (kC (mvK (-q) s.l.pt)).toList=iC (eroI q s)):=putTo s (eroI q s) rfl rfl
 have hok:(eI (RawI.of (eroI q s)) == 0)=okI (eroI q s):=by
  rw [eI_of];unfold okI;split
  ·next h=>rw [decide_eq_true h];rfl
  next h=>rw [decide_eq_false h];rfl
 rw [RawI.of_v] at H2;rw [yam,yam] at H0;have HX1:=jX h1;rw [show iv s = .agg (iC s) from rfl]
 clear hs hq h1;obtain⟨t,ht⟩:∃ t,eroI q s=t:=⟨_,rfl⟩;rw [ht] at HPut H2 hok ⊢;clear ht;generalize kC (mvK (-q) s.l.pt)=M2 at *;generalize rC (-q)=NQ at *;generalize eI (RawI.of t)=n at *;generalize okI t=r at *;go_enter func113,ntmps113
 go_upto_region 1 with (fail)
 obtain⟨W,ga,gb,hW,ega,egb,Bga,Bgb,hga,hgb,hgW,HkW⟩:=al2h w (.cells (iC s) 32) (.cells #[.bool false,.string ⟨#[]⟩,.bool false,.string ⟨#[]⟩,.bool false,.string ⟨#[]⟩,.bool false,.string ⟨#[]⟩,.bool false,.bool false,.string ⟨#[]⟩,.bool false,.string ⟨#[]⟩,.bool false,.string ⟨#[]⟩,.bool false,.string ⟨#[]⟩,.bool false,.bool false,.bool false] 32);rw [← hW];try rw [egb]
 try rw [ega]
 clear hW ega egb;have HXt:=jX ((yap Bga.out).ldt (yaa Bga.out));have HXa:=jX (kw_q (HkW.out.heap HX1.out (by simp)));rw [show kv s.l.pt = .agg (kC s.l.pt) from rfl] at HXt
 rw [yam] at HXa;have HCs:Hid ((iC s).size=20):=rfl;generalize iC s=C0 at *;generalize kC s.l.pt=L at *;generalize rC q=Q at *;have Q0:Hid (∀ m:KW W,Calls prog 60 #[.agg Q] (Wk W m) fun e w'=>e = .returned (.agg NQ)∧∃ m,w'=Wk W m):=fun m=>qk m (H0.out _);have Q1:Hid (∀ m:KW W,Calls prog 54 #[.agg L,.agg NQ] (Wk W m) fun e w'=>e = .returned (.agg M2)∧∃ m,w'=Wk W m):=fun m=>qk m (H1.out _);clear H1 H0;refine yah 6 (by kernel_rfl) (by kernel_rfl) ?_;simp only [List.take_succ_cons,List.take_zero,List.drop_succ_cons,List.drop_zero]
 repeat (first
  | go_big_quiet_skip
  | (go_big_quiet_want;first
   | (refine yaj _ _ _ (.agg L) rfl rfl (by rintro _ ⟨m,rfl⟩;exact HXt.out m) ?_;go_simp;go_big_quiet_on)|(refine yaj _ _ _ (.agg Q) rfl rfl (by rintro _ ⟨m,rfl⟩;exact HXa.out m) ?_;go_simp;go_big_quiet_on)
   | (go_big_quiet_op;first|go_big_quiet_on|go_big_quiet_call (first
    | (go_at_call 60;with_reducible exact (Q0).out _)|(go_at_call 54;with_reducible exact (Q1).out _)))))
 refine wpQuiet_nil ?_;rintro w3 ⟨⟨_,hk_w3⟩,rfl⟩;have Bg3:=jX (hk_w3.heap Bga.out (by simp));have Bgb3:=jX (hk_w3.heap Bgb.out (by simp));have HW3:=jX (HkW.out.tz hk_w3);clear hk_w3 HXt HXa Q0 Q1 Bga Bgb;refine yaI (by rfl) _ _ _ rfl ga 9 M2 rfl rfl (yaZ Bg3.out _ _ (by rw [HCs.out,F2.out.2.1];decide)) (by rw [F2.out.2.1];exact k_size) F2.out.2.2 (fun K hK=>?_);obtain⟨b5,k5⟩:=yav M2.toList 9 _ w3 Bg3.out;generalize World.setCells w3 ga 9 M2.toList=w5 at *;go_simp;refine hK _ _ ?_;clear hK K;rw [HPut.out] at b5;have HB5:=jX (Keep.bz (show Keep [] w w5 from HW3.out.trans k5 (by simp;omega)))
 have Ba5:=jX b5;have Bb5:=jX (k5.heap Bgb3.out (by simp;omega));clear b5 k5 HW3 Bg3 Bgb3;go_upto_region 2 with (fail)
 refine yad (S:=fun u=>Below gb w5 u) 5 (by kernel_rfl) (by kernel_rfl) (fun _ _ d _ _ h=>by cases d<;>exact h) ?_;have hS0:Below gb w5 (World.drew w5):=Below.mono (Keep.drew [] w5).bz (Nat.le_of_lt (yaa Bb5.out));have Bu:=jX ((Keep.drew [] w5).heap Bb5.out (by simp));generalize World.drew w5=u at *;refine jG (v:=iv t) 0 hS0 (fun w hw=>yai _ _ ⟨ga,0,none⟩ _ rfl rfl (yaz _ ga 0 t (yap ((hw.block ga (by omega)).trans Ba5.out)))) (fun K hK=>?_);go_simp;refine hK _ ?_;clear hK K;refine jG (v:=iv t) 1 hS0 (fun w hw=>yai _ _ ⟨ga,0,none⟩ _ rfl rfl (yaz _ ga 0 t (yap ((hw.block ga (by omega)).trans Ba5.out)))) (fun K hK=>?_);go_simp;refine hK _ ?_;clear hK K;refine jP 2 (fun K hK=>?_);refine yaf 17 #[iv t] (by go_simp) ?_;refine (H2.out _).mono ?_;rintro e u2 ⟨rfl,hb⟩;have hS0:=hS0.trans (Below.mono hb (Nat.le_of_lt (yaa Bu.out)));have Bu2:=jX ((hb.block gb (yaa Bu.out)).trans Bu.out);clear hb Bu;refine ⟨_,rfl,?_⟩;go_simp;refine hK _ _ hS0 ?_;clear hK K;refine tV 3 hS0 (fun K hK=>?_);go_simp;refine hK _ ?_;clear hK K;refine jO 4 (fun K hK=>?_);refine wp_store_row _ _ _ rfl gb (iC t) rfl rfl _ _ Bu2.out (by exact ybE t) (by rfl) (ybB t) ?_;obtain⟨w6,e6,b6,k6⟩:=yaM (cs:=iC t) Bu2.out;rw [e6];go_simp;refine hK _ _ (hS0.trans (k6.below (by simp) (Nat.le_of_lt (yaa Bu2.out)))) ?_;clear hK K e6;refine ⟨by kernel_rfl,?_⟩;simp only [List.drop_succ_cons,List.drop_zero];have HB6:=jX (HB5.out.trans (Below.mono (hS0.trans (k6.below (by simp) (Nat.le_of_lt (yaa Bu2.out)))) (by omega:w.heap.size≤gb)));clear hS0;have HLr:=yaz w6 gb 0 t (yap b6);clear k6 b6;go_wp2_with fail;refine bodyPost_ret (v:=.tuple #[iv t,.bool r]) ?_ rfl ⟨rfl,HB6.out⟩;rw [results_cell_tmp rfl];show ((loadVar 32 ⟨gb,0,none⟩).run prog w6).andThen _=_
 rw [HLr];rfl
end
end Go.Proofs.YtpgffjjpiafhpaaGreatDoor
