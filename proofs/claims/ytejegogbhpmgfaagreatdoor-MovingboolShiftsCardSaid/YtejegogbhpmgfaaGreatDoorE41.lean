/- Parts of a proof: La Lb Ie. -/
import Derived.Test.YtejegogbhpmgfaaGreatDoorE40
import Derived.Test.YtejegogbhpmgfaaGreatDoorE35
import Derived.Test.YtejegogbhpmgfaaGreatDoorE31
import Derived.Test.YtejegogbhpmgfaaGreatDoorE32
import Derived.Test.YtejegogbhpmgfaaGreatDoorE29
import Derived.Test.YtejegogbhpmgfaaGreatDoorE12
set_option linter.unusedVariables false
set_option linter.unusedSimpArgs false
set_option maxRecDepth 100000
set_option maxHeartbeats 8000000
namespace Go.Proofs.YtejegogbhpmgfaaGreatDoor
open Go.RowKit Tryz
section
open Classical
noncomputable def chkL:Option (Iv K)→List RawI→Int
 | _,[]=>0
 | p, r :: l => if h : ∃ i : Iv K, r = RawI.of i then
   (if h.choose.f<h.choose.l then
    (match p with
    | none=>chkL (some h.choose) l
    | some b=>if h.choose.f.pt<b.l.pt∨h.choose.f<b.l then 11 else if b.l=h.choose.f then 5 else chkL (some h.choose) l)
   else 10)
  else 5
theorem ygE {r:RawI} (h:eI r≠0) (p:Option (Iv K)) (l:List RawI):chkL p (r :: l)=eI r:=by
 unfold chkL eI at *;by_cases hx:∃ i:Iv K,r=RawI.of i
 ·rw [dif_pos hx] at h ⊢
  rw [dif_pos hx];by_cases hl:hx.choose.f<hx.choose.l
  ·rw [if_pos hl] at h
   exact absurd rfl h
  rw [if_neg hl,if_neg hl]
 rw [dif_neg hx,dif_neg hx]
theorem yik {r:RawI} (h:eI r=0):∃ i:Iv K,r=RawI.of i∧i.f<i.l:=by
 unfold eI at h;by_cases hx:∃ i:Iv K,r=RawI.of i
 ·rw [dif_pos hx] at h
  by_cases hl:hx.choose.f<hx.choose.l
  ·exact ⟨hx.choose,hx.choose_spec,hl⟩
  rw [if_neg hl] at h;exact absurd h (by decide)
 rw [dif_neg hx] at h;exact absurd h (by decide)
theorem ydR {i:Iv K} (h:i.f<i.l) (l:List RawI):chkL none (RawI.of i :: l)=chkL (some i) l:=by
 have hx:∃ j:Iv K,RawI.of i=RawI.of j:=⟨i,rfl⟩;have he:hx.choose=i:=(RawI.of_inj hx.choose_spec).symm;rw [chkL,dif_pos hx];simp only [he];rw [if_pos h]
theorem yeJ {i b:Iv K} (h:i.f<i.l) (l:List RawI):chkL (some b) (RawI.of i :: l)=if i.f.pt<b.l.pt∨i.f<b.l then 11 else if b.l=i.f then 5 else chkL (some i) l:=by
 have hx:∃ j:Iv K,RawI.of i=RawI.of j:=⟨i,rfl⟩;have he:hx.choose=i:=(RawI.of_inj hx.choose_spec).symm;rw [chkL,dif_pos hx];simp only [he];rw [if_pos h]
abbrev RIR:=RowE (fun r:RawI=>r.cells)
theorem rawi_len (r:RawI):r.cells.length=20:=rfl
theorem RIR.elem {w:World} {a:Option Addr} {n c:Nat} {l:List RawI} (h:RIR w (.slice a n c) l) (i:Nat) (hi:i<l.length):∃ g o,a=some ⟨g,o,none⟩∧g<w.heap.size∧RIAt w g (o+i*20) l[i]:=RowE.elem rawi_len h i hi
def RIQ (w:World) (sv:Value) (l:List RawI):Prop:=∃ a c,sv = .slice a l.length c∧(l=[]∨RIR w sv l)
theorem RIQ.elem {w:World} {a:Option Addr} {n c:Nat} {l:List RawI} (h:RIQ w (.slice a n c) l) (i:Nat) (hi:i<l.length):∃ g o,a=some ⟨g,o,none⟩∧g<w.heap.size∧RIAt w g (o+i*20) l[i]:=by
 obtain⟨_,_,_,h⟩:=h;rcases h with rfl|h
 ·exact absurd hi (Nat.not_lt_zero _)
 exact h.elem i hi
theorem RowE.laterB {α:Type} {enc:α→List Value} {w w':World} {sv:Value} {l:List α} (h:RowE enc w sv l) (hb:Below w.heap.size w w'):RowE enc w' sv l:=by
 rcases h with h|⟨g,o,c,rfl,hc,hg,hx⟩
 ·exact .inl h
 refine .inr ⟨g,o,c,rfl,hc,Nat.lt_of_lt_of_le hg hb.size,fun i v hv=>?_⟩;rw [World.cell?_of_block (hb.block g hg)];exact hx i v hv
theorem RIQ.laterB {w w':World} {sv:Value} {l:List RawI} (h:RIQ w sv l) (hb:Below w.heap.size w w'):RIQ w' sv l:=by
 obtain⟨a,c,h1,h2⟩:=h;exact ⟨a,c,h1,h2.imp id (fun h=>h.laterB hb)⟩
theorem RIQ.later {w w':World} {sv:Value} {l:List RawI} (h:RIQ w sv l) (hk:Keep [] w w'):RIQ w' sv l:=h.laterB hk.bz
def ChkAt (l:List RawI) (k:Nat) (p:Option (Iv K)):Prop:=chkL none l=chkL p (l.drop k)∧(k=0→p=none)∧(∀ j (hj:j<l.length),k=j+1→∃ b:Iv K,p=some b∧l[j]=RawI.of b)
theorem ChkAt.start (l:List RawI):ChkAt l 0 none:=⟨rfl,fun _=>rfl,fun j _ h=>by omega⟩
theorem ChkAt.err {l:List RawI} {k:Nat} {p:Option (Iv K)} (h:ChkAt l k p) (hk:k<l.length) (he:eI l[k]≠0):chkL none l=eI l[k]:=by
 rw [h.1,List.drop_eq_getElem_cons hk];exact ygE he _ _
theorem ChkAt.zero {l:List RawI} {p:Option (Iv K)} (h:ChkAt l 0 p) (hk:0<l.length) {i:Iv K} (hi:l[0]=RawI.of i) (hv:i.f<i.l):ChkAt l 1 (some i):=by
 have hp:=h.2.1 rfl;subst hp;refine ⟨?_,fun h=>by omega,fun j hj h=>?_⟩
 ·have h1:=h.1
  rw [List.drop_eq_getElem_cons hk,hi,ydR hv] at h1;exact h1
 obtain rfl:j=0:=by omega
 exact ⟨i,rfl,hi⟩
theorem ChkAt.next {l:List RawI} {j:Nat} {p:Option (Iv K)} (h:ChkAt l (j+1) p) (hk:j+1<l.length) {i:Iv K} (hi:l[j+1]=RawI.of i) (hv:i.f<i.l) :
  ∃ b:Iv K,l[j]'(by omega)=RawI.of b∧((i.f.pt<b.l.pt∨i.f<b.l)→chkL none l=11)∧(¬ (i.f.pt<b.l.pt∨i.f<b.l)→b.l=i.f→chkL none l=5)∧(¬ (i.f.pt<b.l.pt∨i.f<b.l)→b.l≠i.f→ChkAt l (j+2) (some i)):=by
 obtain⟨b,rfl,hb⟩:=h.2.2 j (by omega) rfl;have h1:=h.1;rw [List.drop_eq_getElem_cons hk,hi,yeJ hv] at h1;refine ⟨b,hb,fun ho=>by rw [h1,if_pos ho],fun ho he=>by rw [h1,if_neg ho,if_pos he],fun ho he=>⟨by rw [h1,if_neg ho,if_neg he],fun h=>by omega,fun j' hj' h=>?_⟩⟩;obtain rfl:j'=j+1:=by omega
 exact ⟨i,rfl,hi⟩
theorem ChkAt.done {l:List RawI} {p:Option (Iv K)} (h:ChkAt l l.length p):chkL none l=0:=by
 rw [h.1,List.drop_length];rfl
end
section
open Classical
theorem rawC_size (r:RawI):(prog.info? 49).map (·.size)=some r.C.size:=by
 obtain⟨i,z,hi,hz,hs,hb,hzc⟩:=iv_info;rw [hi];exact congrArg some hs
theorem yjf (x:RawR):∀ v∈x.cells,v.oneCell'=true:=by
 intro v hv;simp only [RawR.cells,List.mem_cons,List.not_mem_nil,or_false] at hv;rcases hv with rfl|rfl|rfl|rfl|rfl|rfl|rfl|rfl|rfl<;>rfl
theorem rawC_ones (r:RawI):r.C.all (·.oneCell')=true:=all_oneCell_toArray (by
 intro v hv;unfold RawI.cells at hv;rcases List.mem_append.1 hv with hv|hv
 ·rcases List.mem_append.1 hv with hv|hv
  ·exact yjf _ v hv
  exact yjf _ v hv
 simp only [List.mem_cons,List.not_mem_nil,or_false] at hv
 rcases hv with rfl|rfl<;>rfl)
theorem cmpB_gt (a b:Bd K):0<cmpB a b↔b<a:=by
 rcases ydu a b with ⟨h,g⟩|⟨h,g⟩|⟨h,g⟩
 ·rw [h];exact ⟨fun _=>g,fun _=>by decide⟩
 ·rw [h];constructor
  ·intro h;exact absurd h (by decide)
  intro h;grind
 rw [h];subst g;constructor
 ·intro h;exact absurd h (by decide)
 intro h;grind
theorem cmpB_eq (a b:Bd K):cmpB a b=0↔a=b:=by
 rcases ydu a b with ⟨h,g⟩|⟨h,g⟩|⟨h,g⟩
 ·rw [h];constructor
  ·intro h;exact absurd h (by decide)
  rintro rfl;grind
 ·rw [h];constructor
  ·intro h;exact absurd h (by decide)
  rintro rfl;grind
 rw [h];exact ⟨fun _=>g,fun _=>rfl⟩
theorem yiQ (l:List RawI) (hs:∀ r∈l,r.sz 100000) (w:World) (sv:Value) (hr:RIQ w sv l) (h9:l.length≤1000000) :
  Calls prog 92 #[sv] w fun e w'=>e = .returned (.int .i64 (chkL none l))∧Below w.heap.size w w':=by
 have HR:=jX hr;have HCI:=jX (fun r (h:r∈l)=>pci_p r (hs r h));obtain⟨ao,ac,rfl,_⟩:=hr;clear hs;go_enter func92,ntmps92
 go_wp2_with fail;go_loopw [10] (fun c wr=>∃ (k:Nat) (p:Option (Iv K)),k≤l.length∧c = .int .i64 (k:Int)∧ChkAt l k p∧Below w.heap.size w wr) (fun c _=>l.length-(intOf c).toNat)
 case atStart=>exact ⟨0,none,Nat.zero_le _,rfl,ChkAt.start l,Below.refl _ _⟩
 case round =>
  obtain⟨k,pv,hk,rfl,hca,hb⟩:=hrel;have HA:=jX hca;have HB:=jX hb;clear hca hb;by_cases hlt:k<l.length
  ·obtain⟨g,o,rfl,hg,hat⟩:=RIQ.elem (HR.out.laterB HB.out) k hlt
   have HI:=jX (HCI.out l[k] (List.getElem_mem hlt));have HErr:=jX (HA.out.err hlt);obtain⟨r,hrk⟩:∃ r,l[k]=r:=⟨_,rfl⟩;have Hrk:=jX hrk;rw [hrk] at hat HI HErr;clear hrk;obtain⟨q,hq⟩:∃ q,o+k*20=q:=⟨_,rfl⟩;rw [hq] at hat;have HL:=jX (ydr wr g q r hat);have HBox:=jX (fun (u:World) (b:Nat) (h:u.heap[b]? = some (.cells r.C 49))=>ydr u b 0 r (ygb h));have HCs:=jX (And.intro (rawC_size r) (And.intro (rawC_ones r) (show r.C.size=20 from rfl)))
   have hrv:r.v = .agg r.C:=rfl;rw [hrv] at HI HL HBox;obtain⟨C,hC⟩:∃ C,r.C=C:=⟨_,rfl⟩;rw [hC] at HI HL HBox HCs;have HC:=jX hC;clear hat hrv hC;have hkc:(k:Int)<(l.length:Int):=by omega
   go_upto_region 3 with (fail)
   refine wp_region_lit ?_;refine' yad (v:=_) (by rfl) (?ha) (fun K hK=>?ka)
   case ha=>(go_simp;try rfl)
   go_simp;refine hK _ _ ?_;clear hK K;refine' yad (v:=_) (by rfl) (?hb) (fun K hK=>?kb)
   case hb=>(go_simp;try rfl)
   go_simp;refine hK _ _ ?_;clear hK K;refine yad (v:=.agg C) (by rfl) (yak _ _ ⟨g,q,none⟩ _ rfl rfl HL.out) (fun K hK=>?_);go_simp;refine hK _ _ ?_;clear hK K;obtain⟨w1,gt,e1,e2,bgt,hgt,_,hk1⟩:=al1 wr (.cells #[.bool false,.string ⟨#[]⟩,.bool false,.string ⟨#[]⟩,.bool false,.string ⟨#[]⟩,.bool false,.string ⟨#[]⟩,.bool false,.bool false,.string ⟨#[]⟩,.bool false,.string ⟨#[]⟩,.bool false,.string ⟨#[]⟩,.bool false,.string ⟨#[]⟩,.bool false,.bool false,.bool false] 49);refine yar (v:=.pointer (some ⟨wr.heap.size,0,none⟩)) (w':=wr.alloc (.cells #[.bool false,.string ⟨#[]⟩,.bool false,.string ⟨#[]⟩,.bool false,.string ⟨#[]⟩,.bool false,.string ⟨#[]⟩,.bool false,.bool false,.string ⟨#[]⟩,.bool false,.string ⟨#[]⟩,.bool false,.string ⟨#[]⟩,.bool false,.string ⟨#[]⟩,.bool false,.bool false,.bool false] 49)) (by rfl) (ygY _ _ _ rfl) (fun K hK=>?_);rw [← e1,e2];clear e1;go_simp;refine hK _ _ ?_;clear hK K;refine' yad (v:=_) (by rfl) (?hc) (fun K hK=>?kc)
   case hc=>(go_simp;try rfl)
   go_simp;refine hK _ _ ?_;clear hK K;refine yal (by rfl) _ _ _ rfl gt C rfl rfl _ _ bgt HCs.out.1 (by rw [HCs.out.2.2];rfl) HCs.out.2.1 (fun K hK=>?_);obtain⟨w2,e4,b4,k4⟩:=yam (cs:=C) bgt;rw [e4];go_simp;refine hK _ _ ?_;clear hK K e4 HL;have HW2:=jX (show Keep [] wr w2 from hk1.trans k4 (by simp;omega))
   have Bgt:=jX b4;have HB2:=jX (HB.out.trans (Below.mono HW2.out.bz HB.out.size));clear b4 k4 hk1 bgt;go_upto_region 4 with (fail)
   refine wp_region_lit ?_;refine yad (v:=.agg C) (by rfl) (yak _ _ ⟨gt,0,none⟩ _ rfl rfl (HBox.out w2 gt Bgt.out)) (fun K hK=>?_);go_simp;refine hK _ _ ?_;clear hK K;refine wpList_plain (by rfl) (fun K hK=>?_);refine yae 96 #[.agg C] (by go_simp) ?_;refine (HI.out _).mono ?_;rintro e w3 ⟨rfl,hb3⟩;refine ⟨_,rfl,?_⟩;go_simp;refine hK _ _ ?_;clear hK K;have HB3:=jX (HB2.out.trans (Below.mono hb3 HB2.out.size));have B2gt:=jX ((hb3.block gt (yab Bgt.out)).trans Bgt.out);clear Bgt;have Bgt:=B2gt;clear B2gt;clear hb3 HI;have HZ:=jX (@yik r);obtain⟨e0,he0⟩:∃ e0,eI r=e0:=⟨_,rfl⟩;rw [he0] at HErr HZ;rw [he0];clear he0;by_cases he:e0=0
   ·subst he
    obtain⟨i,hi,hv⟩:=HZ.out rfl;have Hi:=jX (Hrk.out.trans hi);have Hv:=jX hv;have Hri:=jX hi;clear hi hv HZ HErr;rcases Nat.eq_zero_or_pos k with hk0|hk0
    ·subst hk0
     have HN:=jX (HA.out.zero hlt Hi.out Hv.out);go_wp2_with fail;go_roundw
     case rel=>exact ⟨1,some i,by omega,rfl,HN.out,HB3.out⟩
     case measure=>simp [intOf];omega
    obtain⟨j,hj⟩:∃ j,k=j+1:=⟨k-1,by omega⟩;have hjl:j<l.length:=by omega
    obtain⟨b,hb,n11,n5,nok⟩:∃ b:Iv K,l[j]'hjl=RawI.of b∧((i.f.pt<b.l.pt∨i.f<b.l)→chkL none l=11)∧(¬ (i.f.pt<b.l.pt∨i.f<b.l)→b.l=i.f→chkL none l=5)∧(¬ (i.f.pt<b.l.pt∨i.f<b.l)→b.l≠i.f→ChkAt l (k+1) (some i)):=by
     subst hj;exact ChkAt.next HA.out hlt Hi.out Hv.out
    obtain⟨g',o',e,hg',hat'⟩:=RIQ.elem (HR.out.laterB HB3.out) j hjl;injection e with e;injection e with e1 e2;subst e1 e2;rw [hb] at hat';obtain⟨qb,hqb⟩:∃ qb,o+j*20=qb:=⟨_,rfl⟩;rw [hqb] at hat';have HLb:=jX (ydr w3 g qb (RawI.of b) hat');have hCi:C=iC i:=by rw [← HC.out,Hri.out];rfl
    have N11:=jX n11;have N5:=jX n5;have Nok:=jX nok;have H1:=jX (yir b);have H2:=jX (ygt i);have H3:=jX (yfF b.l i.f);have H4:=jX (krcmp_c i.f.pt b.l.pt);have HXf:Hid (∀ (u:World),u.heap[gt]? = some (.cells (iC i) 49)→(loadVar 36 ⟨gt,0,none⟩).run prog u = .ok (kv i.f.pt) u):=fun u h=>yap u gt 0 i.f.pt.1 (yaV h).frm;have HXt:Hid (∀ (u:World) (gb:Nat),u.heap[gb]? = some (.cells (iC b) 49)→(loadVar 36 ⟨gb,9,none⟩).run prog u = .ok (kv b.l.pt) u):=fun u gb h=>yap u gb (0+9) b.l.pt.1 (yaV h).upto;have HBb:=jX (fun (u:World) (gb:Nat) (h:u.heap[gb]? = some (.cells (iC b) 49))=>ybE u gb 0 b (yaV h));have HSb:=jX (And.intro (ycw b) (And.intro (ycF b) (show (iC b).size=20 from rfl)))
    have hlt1:=yfm i.f.pt b.l.pt;have hgt1:=cmpB_gt b.l i.f;have heq1:=cmpB_eq b.l i.f;have Hlt1:=jX hlt1;have Hgt1:=jX hgt1;have Heq1:=jX heq1;rw [show (RawI.of b).v = .agg (iC b) from rfl] at HLb
    rw [← hCi] at HXf;rw [show iv i = .agg (iC i) from rfl,← hCi] at H2
    rw [show iv b = .agg (iC b) from rfl] at H1 HBb
    unfold bv at H1 H2 H3;unfold kv at HXf HXt H4;have hsub:(k:Int)-1=(j:Int):=by omega
    have hjc:(j:Int)<(l.length:Int):=by omega
    have hwj:IntKind.i64.wrap (j:Int)=(j:Int):=IntWalk.i64_in _ (by omega);have hj0:(0:Int)≤(j:Int):=by omega
    have hjt:(j:Int).toNat=j:=by omega
    have hke:((k:Int) == 0)=false:=by rw [beq_eq_false_iff_ne];omega
    clear hb n11 n5 nok hCi hlt1 hgt1 heq1 hat' hj;generalize (bcells i.f).toArray=BF at *;generalize (bcells b.l).toArray=BL at *;generalize kC i.f.pt=F1 at *;generalize kC b.l.pt=L1 at *;generalize iC b=CB at *;generalize cmpB b.l i.f=n2 at *;generalize cmpQ i.f.pt.1 b.l.pt.1=n1 at *;go_upto_region 8 with (fail)
    refine wp_region_lit ?_;refine' yad (v:=_) (by rfl) (?hd) (fun K hK=>?kd)
    case hd=>(go_simp;try rfl)
    go_simp;refine hK _ _ ?_;clear hK K;refine' yad (v:=_) (by rfl) (?he) (fun K hK=>?ke)
    case he=>(go_simp;try rfl)
    go_simp;refine hK _ _ ?_;clear hK K;refine' yad (v:=_) (by rfl) (?hf) (fun K hK=>?kf)
    case hf=>(go_simp;try rfl)
    go_simp;refine hK _ _ ?_;clear hK K;refine' yad (v:=_) (by rfl) (?hg) (fun K hK=>?kg)
    case hg=>(go_simp;try rfl)
    go_simp;refine hK _ _ ?_;clear hK K;refine yad (v:=.agg CB) (by rfl) (yak _ _ ⟨g,qb,none⟩ _ rfl rfl HLb.out) (fun K hK=>?_);go_simp;refine hK _ _ ?_;clear hK K;obtain⟨w4,gb,e1,e2,bgb,hgb,_,hk4⟩:=al1 w3 (.cells #[.bool false,.string ⟨#[]⟩,.bool false,.string ⟨#[]⟩,.bool false,.string ⟨#[]⟩,.bool false,.string ⟨#[]⟩,.bool false,.bool false,.string ⟨#[]⟩,.bool false,.string ⟨#[]⟩,.bool false,.string ⟨#[]⟩,.bool false,.string ⟨#[]⟩,.bool false,.bool false,.bool false] 49);refine yar (v:=.pointer (some ⟨w3.heap.size,0,none⟩)) (w':=w3.alloc (.cells #[.bool false,.string ⟨#[]⟩,.bool false,.string ⟨#[]⟩,.bool false,.string ⟨#[]⟩,.bool false,.string ⟨#[]⟩,.bool false,.bool false,.string ⟨#[]⟩,.bool false,.string ⟨#[]⟩,.bool false,.string ⟨#[]⟩,.bool false,.string ⟨#[]⟩,.bool false,.bool false,.bool false] 49)) (by rfl) (ygY _ _ _ rfl) (fun K hK=>?_);rw [← e1,e2];clear e1;go_simp;refine hK _ _ ?_;clear hK K;refine yal (by rfl) _ _ _ rfl gb CB rfl rfl _ _ bgb HSb.out.1 (by rw [HSb.out.2.2];rfl) HSb.out.2.1 (fun K hK=>?_);obtain⟨w5,e5,b5,k5⟩:=yam (cs:=CB) bgb;rw [e5];go_simp;refine hK _ _ ?_;clear hK K e5 HLb;have HW5:=jX (show Keep [] w3 w5 from hk4.trans k5 (by simp;omega))
    have Bgb:=jX b5;have Bgt5:=jX (HW5.out.heap Bgt.out (by simp));have HB5:=jX (HB3.out.trans (Below.mono HW5.out.bz HB3.out.size));clear b5 k5 hk4 bgb;go_wp2_with fail;have HX1:Hid (∀ m:KW w5,(loadVar 49 ⟨gb,0,none⟩).run prog (Wk w5 m) = .ok (.agg CB) (Wk w5 m)):=fun m=>HBb.out _ gb (m.k.heap Bgb.out (by simp));have HX2:Hid (∀ m:KW w5,(loadVar 49 ⟨gt,0,none⟩).run prog (Wk w5 m) = .ok (.agg C) (Wk w5 m)):=fun m=>HBox.out _ gt (m.k.heap Bgt5.out (by simp));have Q1:Hid (∀ m:KW w5,Calls prog 107 #[.agg CB] (Wk w5 m) fun e w'=>e = .returned (.agg BL)∧∃ m,w'=Wk w5 m):=fun m=>qk m (H1.out _);have Q2:Hid (∀ m:KW w5,Calls prog 106 #[.agg C] (Wk w5 m) fun e w'=>e = .returned (.agg BF)∧∃ m,w'=Wk w5 m):=fun m=>qk m (H2.out _);have Q3:Hid (∀ m:KW w5,Calls prog 105 #[.agg BL,.agg BF] (Wk w5 m) fun e w'=>e = .returned (.int .i64 n2)∧∃ m,w'=Wk w5 m):=fun m=>qk m (H3.out _);refine yac (by kernel_rfl) (by kernel_rfl) ?_
    repeat (first
     | go_big_quiet_skip
     | (go_big_quiet_want;first
      | (refine yai _ _ _ (.agg CB) rfl rfl (by rintro _ ⟨m,rfl⟩;exact HX1.out m) ?_;go_simp;go_big_quiet_on)|(refine yai _ _ _ (.agg C) rfl rfl (by rintro _ ⟨m,rfl⟩;exact HX2.out m) ?_;go_simp;go_big_quiet_on)
      | (go_big_quiet_op;first|go_big_quiet_on|go_big_quiet_call (first
       | (go_at_call 107;with_reducible exact (Q1).out _)|(go_at_call 106;with_reducible exact (Q2).out _)|(go_at_call 105;with_reducible exact (Q3).out _)))))
    refine wpQuiet_nil ?_;rintro w6 ⟨⟨_,hk_w6⟩,rfl⟩;have Bgb6:=jX (hk_w6.heap Bgb.out (by simp));have Bgt6:=jX (hk_w6.heap Bgt5.out (by simp));have HB6:=jX (HB5.out.trans (Below.mono hk_w6.bz HB5.out.size));clear hk_w6 HX1 HX2 Q1 Q2 Q3 H1 H2 H3;go_upto_region 10 with (fail)
    refine wp_region_lit ?_;refine' yad (v:=_) (by rfl) (?hh) (fun K hK=>?kh)
    case hh=>(go_simp;try rfl)
    go_simp;refine hK _ _ ?_;clear hK K;refine yad (v:=.agg F1) (by rfl) (yak _ _ ⟨gt,0,none⟩ _ rfl rfl (HXf.out w6 Bgt6.out)) (fun K hK=>?_);go_simp;refine hK _ _ ?_;clear hK K;refine' yad (v:=_) (by rfl) (?hi) (fun K hK=>?ki)
    case hi=>(go_simp;try rfl)
    go_simp;refine hK _ _ ?_;clear hK K;refine yad (v:=.agg L1) (by rfl) (yak _ _ ⟨gb,9,none⟩ _ rfl rfl (HXt.out w6 gb Bgb6.out)) (fun K hK=>?_);go_simp;refine hK _ _ ?_;clear hK K;refine wpList_plain (by rfl) (fun K hK=>?_);refine yae 77 #[.agg F1,.agg L1] (by go_simp) ?_;refine (H4.out _).mono ?_;rintro e w7 ⟨rfl,hk7⟩;refine ⟨_,rfl,?_⟩;go_simp;refine hK _ _ ?_;clear hK K;have HB7:=jX (HB6.out.trans (Below.mono hk7.bz HB6.out.size));clear hk7 H4;by_cases h1:n1<0
    ·have HE:=jX (N11.out (.inl (Hlt1.out.1 h1)))
     clear N11 N5 Nok;go_wp2_with fail;go_ret
     exact ⟨by rw [HE.out];rfl,HB7.out⟩
    by_cases h2:0<n2
    ·have HE:=jX (N11.out (.inr (Hgt1.out.1 h2)))
     clear N11 N5 Nok;go_wp2_with fail;go_ret
     exact ⟨by rw [HE.out];rfl,HB7.out⟩
    have hno:¬ (i.f.pt<b.l.pt∨i.f<b.l):=fun h=>h.elim (fun h=>h1 (Hlt1.out.2 h)) (fun h=>h2 (Hgt1.out.2 h));by_cases h3:n2=0
    ·have HE:=jX (N5.out hno (Heq1.out.1 h3))
     subst h3;clear N11 N5 Nok hno;go_wp2_with fail;go_ret
     exact ⟨by rw [HE.out];rfl,HB7.out⟩
    have HE:=jX (Nok.out hno (fun h=>h3 (Heq1.out.2 h)));have h3b:(n2 == 0)=false:=by rw [beq_eq_false_iff_ne];exact h3
    clear N11 N5 Nok hno;go_wp2_with fail;go_roundw
    case rel=>exact ⟨k+1,some i,by omega,congrArg (Value.int .i64) (by omega),HE.out,HB7.out⟩
    case measure=>simp [intOf];omega
   have hne:(e0 != 0)=true:=by rw [bne_iff_ne];exact he
   have HE:=jX (HErr.out he);clear HZ HErr he;go_wp2_with fail;go_ret
   exact ⟨by rw [HE.out];rfl,HB3.out⟩
  obtain rfl:k=l.length:=by omega
  have HD:=jX (HA.out.done);go_wp2_with fail;go_ret
  exact ⟨by rw [HD.out];rfl,HB.out⟩
end
section
open Classical
theorem chkL_from:∀ (l:List RawI) (b:Iv K),chkL (some b) l=0→∃ D:List (Iv K),l=D.map RawI.of∧NormF D b.l
 | [],b,_=>⟨[],rfl,trivial⟩
 | r :: l,b,h=>by
  have he:eI r=0:=Classical.byContradiction fun hn=>hn (by rw [← ygE hn (some b) l];exact h);obtain⟨i,rfl,hv⟩:=yik he;rw [yeJ hv] at h;split at h
  ·exact absurd h (by decide)
  rename_i h1;split at h
  ·exact absurd h (by decide)
  rename_i h2;obtain⟨D,hD,hN⟩:=chkL_from l i h;exact ⟨i :: D,by rw [List.map_cons,hD],by grind,hv,hN⟩
theorem ygy {l:List RawI} (h:chkL none l=0):∃ D:List (Iv K),l=D.map RawI.of∧Norm D:=by
 cases l with
 | nil=>exact ⟨[],rfl,trivial⟩
 | cons r l =>
  have he:eI r=0:=Classical.byContradiction fun hn=>hn (by rw [← ygE hn none l];exact h);obtain⟨i,rfl,hv⟩:=yik he;rw [ydR hv] at h;obtain⟨D,hD,hN⟩:=chkL_from l i h;exact ⟨i :: D,by rw [List.map_cons,hD],hv,hN⟩
theorem chkL_from':∀ (D:List (Iv K)) (b:Iv K),NormF D b.l→chkL (some b) (D.map RawI.of)=0
 | [],_,_=>rfl
 | i :: D,b,h=>by
  obtain⟨h1,h2,h3⟩:=h;rw [List.map_cons,yeJ h2,if_neg,if_neg,chkL_from' D i h3]
  ·intro h
   rw [h] at h1;grind
  rintro (h|h)
  ·have:=h1
   rw [Bd.lt_def] at this;grind
  grind
theorem yhB {D:List (Iv K)} (h:Norm D):chkL none (D.map RawI.of)=0:=by
 cases D with
 | nil=>rfl
 | cons i D=>rw [List.map_cons,ydR h.1,chkL_from' D i h.2]
theorem yiB {d k:Nat} (h:Fit k (d:Int)):(dnS d).size≤k:=by
 unfold dnS;split
 ·exact Nat.zero_le _
 unfold Fit mgS at h;rwa [Int.natAbs_natCast] at h
theorem yiL (i:Iv K):(RawI.of i).sz 100000 :=
 ⟨⟨i.f.pt.2.2.1.1,yiB i.f.pt.2.2.1.2,i.f.pt.2.2.2.1,yiB i.f.pt.2.2.2.2⟩,⟨i.l.pt.2.2.1.1,yiB i.l.pt.2.2.1.2,i.l.pt.2.2.2.1,yiB i.l.pt.2.2.2.2⟩⟩
theorem iv_rir {w:World} {v:Value} {D:List (Iv K)} (h:IvR w v D):RIR w v (D.map RawI.of):=by
 rcases h with ⟨h1,h2⟩|⟨g,o,c,h1,h2,h3,h4⟩
 ·exact .inl ⟨h1,by rw [h2];rfl⟩
 refine .inr ⟨g,o,c,by rw [h1,List.length_map],by rw [List.length_map];exact h2,h3,fun i v hv=>h4 i v ?_⟩;rw [List.flatMap_map] at hv;exact hv
theorem map_of_inj:∀ {D T:List (Iv K)},D.map RawI.of=T.map RawI.of→D=T
 | [],[],_=>rfl
 | [],_ :: _,h=>by cases h
 | _ :: _,[],h=>by cases h
 | i :: D,j :: T,h=>by
  rw [List.map_cons,List.map_cons] at h;injection h with h1 h2;rw [RawI.of_inj h1,map_of_inj h2]
theorem rir_iv {w:World} {v:Value} {D:List (Iv K)} (h:RIR w v (D.map RawI.of)):IvR w v D:=by
 rcases h with ⟨h1,h2⟩|⟨g,o,c,h1,h2,h3,h4⟩
 ·exact .inl ⟨h1,List.map_eq_nil_iff.1 h2⟩
 refine .inr ⟨g,o,c,by rw [h1,List.length_map],by rw [List.length_map] at h2;exact h2,h3,fun i v hv=>h4 i v ?_⟩;rw [List.flatMap_map];exact hv
theorem RIR.riq {w:World} {v:Value} {l:List RawI} (h:RIR w v l):RIQ w v l:=by
 obtain⟨a,c,h1,_⟩:=h.form;exact ⟨a,c,h1,.inr h⟩
noncomputable def chkB (l m:List RawI):Int :=
 if chkL none l≠0 then chkL none l else if chkL none m≠0 then chkL none m else
  if ∃ D T:List (Iv K),l=D.map RawI.of∧m=T.map RawI.of∧yaz 3 T D=[] then 0 else 2
theorem chkB_l {l m:List RawI} (h:chkL none l≠0):chkB l m=chkL none l:=by unfold chkB;rw [if_pos h]
theorem chkB_m {l m:List RawI} (h:chkL none l=0) (h2:chkL none m≠0):chkB l m=chkL none m:=by unfold chkB;rw [if_neg (fun hn=>hn h),if_pos h2]
theorem chkB_v {l m:List RawI} {D T:List (Iv K)} (h:chkL none l=0) (h2:chkL none m=0) (hl:l=D.map RawI.of) (hm:m=T.map RawI.of):chkB l m=if yaz 3 T D=[] then 0 else 2:=by
 unfold chkB;rw [if_neg (fun hn=>hn h),if_neg (fun hn=>hn h2)];by_cases hc:yaz 3 T D=[]
 ·rw [if_pos ⟨D,T,hl,hm,hc⟩,if_pos hc]
 rw [if_neg,if_neg hc];rintro ⟨D',T',a,b,c⟩;rw [hl] at a;rw [hm] at b;rw [map_of_inj a,map_of_inj b] at hc;exact hc c
theorem infoSlI:(prog.info? 27).map (fun i=>(i.size,i.bytes,i.zero.map (·.cells)))=some (1,24,some #[.slice none 0 0]):=by kernel_rfl
theorem fill_s3 (a b:Option Addr) (m k n l:Nat):Instr.fill (fun i=>some (i*1,1)) ((Array.range (2*1)).map ((#[.slice none 0 0]:Array Value)[· % 1]!)) #[(0,Value.slice a m k),(1,Value.slice b n l)].toList=some #[.slice a m k,.slice b n l]:=by kernel_rfl
theorem build2_i (a b:Option Addr) (m k n l:Nat) (w:World):(Instr.buildSlice 102 2 #[(0,.slice a m k),(1,.slice b n l)]).run prog w = .ok (.slice (some ⟨w.heap.size,0,none⟩) 2 2) (w.alloc (.cells #[.slice a m k,.slice b n l] 27)):=by
 have h:=infoSlI;cases hi:prog.info? 27 with
 | none=>rw [hi] at h;cases h
 | some i =>
  rw [hi] at h;simp only [Option.map_some,Option.some.injEq,Prod.mk.injEq] at h;obtain⟨h1,h2,h3⟩:=h;cases hz:i.zero with
  | none=>rw [hz] at h3;cases h3
  | some z =>
   rw [hz] at h3;simp only [Option.map_some,Option.some.injEq] at h3;refine run_buildSlice (P:=prog) w 102 27 2 _ _ i z underlying102 hi hz (by rw [h1];decide) (by rw [h1];decide) ?_;rw [h1,h3];exact fill_s3 _ _ _ _ _ _
theorem cov_of {l m:List RawI} {w:World} {dv tv:Value} (hr:RIR w dv l) (hq:RIR w tv m) (h6:l.length≤2000) (h7:m.length≤2000) (h1:chkL none l=0) (h2:chkL none m=0) :
  Calls prog 93 #[dv,tv] w fun e w'=>e = .returned (.bool (decide (chkB l m=0)))∧Keep [] w w':=by
 obtain⟨D,hD,nD⟩:=ygy h1;obtain⟨T,hT,nT⟩:=ygy h2;rw [chkB_v h1 h2 hD hT];subst hD hT;rw [List.length_map] at h6 h7;refine (covers_c D T nD.val nT.val w dv tv (rir_iv hr) (rir_iv hq) (by omega) (by omega)).mono fun e w' ⟨he,hk⟩=>⟨?_,hk⟩;rw [he];by_cases hc:yaz 3 T D=[]
 ·rw [decide_eq_true hc,if_pos hc];rfl
 rw [decide_eq_false hc,if_neg hc];rfl
theorem chkB_02 {l m:List RawI} (h1:chkL none l=0) (h2:chkL none m=0):chkB l m=0∨chkB l m=2:=by
 obtain⟨D,hD,_⟩:=ygy h1;obtain⟨T,hT,_⟩:=ygy h2;rw [chkB_v h1 h2 hD hT];by_cases hc:yaz 3 T D=[]
 ·rw [if_pos hc];exact .inl rfl
 rw [if_neg hc];exact .inr rfl
theorem mcheckB_p (l m:List RawI) (hs:∀ r∈l,r.sz 100000) (ht:∀ r∈m,r.sz 100000) (h6:l.length≤2000) (h7:m.length≤2000) (w:World) (dv tv:Value) (hr:RIR w dv l) (hq:RIR w tv m) :
  Calls prog 55 #[.agg #[dv,tv]] w fun e w'=>e = .returned (.int .i64 (chkB l m))∧Below w.heap.size w w':=by
 have H1:=jX (fun u (hk:Below w.heap.size w u)=>yiQ l hs u dv (RIR.riq hr |>.laterB hk) (by omega));have H2:=jX (fun u (hk:Below w.heap.size w u)=>yiQ m ht u tv (RIR.riq hq |>.laterB hk) (by omega));have H3:=jX (fun u (hk:Below w.heap.size w u) h1 h2=>cov_of (hr.laterB hk) (hq.laterB hk) h6 h7 h1 h2);have Hl:=jX (@chkB_l l m);have Hm:=jX (@chkB_m l m);have Hz:=jX (@chkB_02 l m);obtain⟨da,dc,rfl,_⟩:=hr.form;obtain⟨ta,tc,rfl,_⟩:=hq.form;clear hr hq hs ht;generalize chkL none l=x at *;generalize chkL none m=y at *;generalize chkB l m=z at *;go_enter func55,ntmps55
 go_upto_region 1 with (fail)
 obtain⟨W,ga,hW,ega,Bga,hga,hgW,HkW⟩:=al1h w (.cells #[.slice da l.length dc,.slice ta m.length tc] 29);rw [← hW];try rw [ega]
 clear hW ega;have pga:=yaa Bga.out;refine wp_region_lit ?_;refine' yad (v:=_) (by rfl) (?ha) (fun K hK=>?ka)
 case ha=>(go_simp;try rfl)
 go_simp;refine hK _ _ ?_;clear hK K;refine' yad (v:=_) (by rfl) (?hb) (fun K hK=>?kb)
 case hb=>(go_simp;try rfl)
 go_simp;refine hK _ _ ?_;clear hK K;refine' yad (v:=_) (by rfl) (?hc) (fun K hK=>?kc)
 case hc=>(go_simp;try rfl)
 go_simp;refine hK _ _ ?_;clear hK K;refine' yad (v:=_) (by rfl) (?hd) (fun K hK=>?kd)
 case hd=>(go_simp;try rfl)
 go_simp;refine hK _ _ ?_;clear hK K;clear pga;obtain⟨w1,gs,e1,e2,bgs,hgs,_,hk1⟩:=al1 W (.cells #[.slice da l.length dc,.slice ta m.length tc] 27);refine yar (v:=.slice (some ⟨W.heap.size,0,none⟩) 2 2) (w':=W.alloc (.cells #[.slice da l.length dc,.slice ta m.length tc] 27)) (by rfl) (yaF 102 2 #[(0,.tmp 7),(1,.tmp 9)] #[(0,.slice da l.length dc),(1,.slice ta m.length tc)] _ rfl (by simp only [List.map_toArray,List.map_cons,List.map_nil];rfl) (build2_i _ _ _ _ _ _ _)) (fun K hK=>?_);rw [← e1,e2];clear e1 e2;go_simp;refine hK _ _ ?_;clear hK K;have HB1:=jX (HkW.out.tz hk1).bz;have hga:=hk1.heap Bga.out (by simp);clear hk1 hgs;go_wp2_with fail;go_loopw [12] (fun c wr=>∃ k:Nat,k≤2∧c = .int .i64 (k:Int)∧(1≤k→x=0)∧(2≤k→y=0)∧Below w.heap.size w wr∧wr.heap[gs]? = some (.cells #[.slice da l.length dc,.slice ta m.length tc] 27)∧wr.heap[ga]? = some (.cells #[.slice da l.length dc,.slice ta m.length tc] 29)) (fun c _=>2-(intOf c).toNat)
 case atStart=>exact ⟨0,by omega,rfl,by omega,by omega,HB1.out,bgs,hga⟩
 case round =>
  obtain⟨k,hk,rfl,h1,h2,hb,hs,hg⟩:=hrel;have HB:=jX hb;have Bgs:=jX hs;have Bga:=jX hg;clear hb hs hg bgs hga;obtain rfl|rfl|rfl:k=0∨k=1∨k=2:=by omega
  ·clear h1 h2
   have pgs:=yaa Bgs.out;go_wp2_with fail;refine (H1.out _ HB.out).mono ?_;rintro e w2 ⟨rfl,hb2⟩;dsimp only;have HB2:=jX (HB.out.trans (Below.mono hb2 HB.out.size));have B2gs:=jX ((hb2.block gs (yab Bgs.out)).trans Bgs.out);clear Bgs;have Bgs:=B2gs;clear B2gs;have B2ga:=jX ((hb2.block ga (yab Bga.out)).trans Bga.out);clear Bga;have Bga:=B2ga;clear B2ga;clear hb2 pgs;by_cases hx:x=0
   ·subst hx
    go_wp2_with fail;go_roundw
    case rel=>exact ⟨1,by omega,rfl,fun _=>by trivial,by omega,HB2.out,Bgs.out,Bga.out⟩
    case measure=>simp [intOf]
   have hne:(x != 0)=true:=by rw [bne_iff_ne];exact hx
   have HE:=jX (Hl.out hx);clear hx;go_wp2_with fail;go_ret
   exact ⟨by rw [HE.out];rfl,HB2.out⟩
  ·have hx:x=0:=h1 (by omega)
   subst hx;clear h1 h2;have pgs:=yaa Bgs.out;go_wp2_with fail;refine (H2.out _ HB.out).mono ?_;rintro e w2 ⟨rfl,hb2⟩;dsimp only;have HB2:=jX (HB.out.trans (Below.mono hb2 HB.out.size));have B2gs:=jX ((hb2.block gs (yab Bgs.out)).trans Bgs.out);clear Bgs;have Bgs:=B2gs;clear B2gs;have B2ga:=jX ((hb2.block ga (yab Bga.out)).trans Bga.out);clear Bga;have Bga:=B2ga;clear B2ga;clear hb2 pgs;by_cases hy:y=0
   ·subst hy
    go_wp2_with fail;go_roundw
    case rel=>exact ⟨2,by omega,rfl,fun _=>by trivial,fun _=>by trivial,HB2.out,Bgs.out,Bga.out⟩
    case measure=>simp [intOf]
   have hne:(y != 0)=true:=by rw [bne_iff_ne];exact hy
   have HE:=jX (Hm.out (by trivial) hy);clear hy;go_wp2_with fail;go_ret
   exact ⟨by rw [HE.out];rfl,HB2.out⟩
  have hx:x=0:=h1 (by omega);have hy:y=0:=h2 (by omega);subst hx hy;clear h1 h2;have pga:=yaa Bga.out;go_wp2_with fail;refine (H3.out _ HB.out (by trivial) (by trivial)).mono ?_;rintro e w2 ⟨rfl,hk2⟩;dsimp only;have HB2:=jX (HB.out.trans (Below.mono hk2.bz HB.out.size));clear hk2 pga;rcases Hz.out (by trivial) (by trivial) with rfl|rfl
  ·go_wp2_with fail
   go_ret
   exact ⟨rfl,HB2.out⟩
  go_wp2_with fail;go_ret
  exact ⟨rfl,HB2.out⟩
end
end Go.Proofs.YtejegogbhpmgfaaGreatDoor
