/- Parts of a proof: La Lb Ya Iz. -/
import Derived.Test.YtejegogbhpmgfaaGreatDoorG35
import Derived.Test.YtejegogbhpmgfaaGreatDoorG16
import Derived.Test.YtejegogbhpmgfaaGreatDoorG17
import Derived.Test.YtejegogbhpmgfaaGreatDoorG13
import Derived.Test.YtejegogbhpmgfaaGreatDoorG12
set_option linter.unusedVariables false
set_option linter.unusedSimpArgs false
set_option maxRecDepth 100000
set_option maxHeartbeats 8000000
namespace Go.Proofs.YtejegogbhpmgfaaGreatDoor
open Go.RowKit Tryz
section
open Classical
noncomputable def chkL:Option (Iv K)→List RawI→Int
 | _,[]=>0
 | p, r :: l => if h : ∃ i : Iv K, r = RawI.of i then
   (if h.choose.f<h.choose.l then
    (match p with
    | none=>chkL (some h.choose) l
    | some b=>if h.choose.f.pt<b.l.pt∨h.choose.f<b.l then 11 else if b.l=h.choose.f then 5 else chkL (some h.choose) l)
   else 10)
  else 5
theorem yfV {r:RawI} (h:eI r≠0) (p:Option (Iv K)) (l:List RawI):chkL p (r :: l)=eI r:=by
 unfold chkL eI at *;by_cases hx:∃ i:Iv K,r=RawI.of i
 ·rw [dif_pos hx] at h ⊢
  rw [dif_pos hx];by_cases hl:hx.choose.f<hx.choose.l
  ·rw [if_pos hl] at h
   exact absurd rfl h
  rw [if_neg hl,if_neg hl]
 rw [dif_neg hx,dif_neg hx]
theorem yfQ {r:RawI} (h:eI r=0):∃ i:Iv K,r=RawI.of i∧i.f<i.l:=by
 unfold eI at h;by_cases hx:∃ i:Iv K,r=RawI.of i
 ·rw [dif_pos hx] at h
  by_cases hl:hx.choose.f<hx.choose.l
  ·exact ⟨hx.choose,hx.choose_spec,hl⟩
  rw [if_neg hl] at h;exact absurd h (by decide)
 rw [dif_neg hx] at h;exact absurd h (by decide)
theorem ydS {i:Iv K} (h:i.f<i.l) (l:List RawI):chkL none (RawI.of i :: l)=chkL (some i) l:=by
 have hx:∃ j:Iv K,RawI.of i=RawI.of j:=⟨i,rfl⟩;have he:hx.choose=i:=(RawI.of_inj hx.choose_spec).symm;rw [chkL,dif_pos hx];simp only [he];rw [if_pos h]
theorem yfb {i b:Iv K} (h:i.f<i.l) (l:List RawI):chkL (some b) (RawI.of i :: l)=if i.f.pt<b.l.pt∨i.f<b.l then 11 else if b.l=i.f then 5 else chkL (some i) l:=by
 have hx:∃ j:Iv K,RawI.of i=RawI.of j:=⟨i,rfl⟩;have he:hx.choose=i:=(RawI.of_inj hx.choose_spec).symm;rw [chkL,dif_pos hx];simp only [he];rw [if_pos h]
abbrev RIR:=RowE (fun r:RawI=>r.cells)
theorem yeh (r:RawI):r.cells.length=20:=rfl
theorem RIR.elem {w:World} {a:Option Addr} {n c:Nat} {l:List RawI} (h:RIR w (.slice a n c) l) (i:Nat) (hi:i<l.length):∃ g o,a=some ⟨g,o,none⟩∧g<w.heap.size∧RIAt w g (o+i*20) l[i]:=RowE.elem yeh h i hi
def RIQ (w:World) (sv:Value) (l:List RawI):Prop:=∃ a c,sv = .slice a l.length c∧(l=[]∨RIR w sv l)
theorem RIQ.elem {w:World} {a:Option Addr} {n c:Nat} {l:List RawI} (h:RIQ w (.slice a n c) l) (i:Nat) (hi:i<l.length):∃ g o,a=some ⟨g,o,none⟩∧g<w.heap.size∧RIAt w g (o+i*20) l[i]:=by
 obtain⟨_,_,_,h⟩:=h;rcases h with rfl|h
 ·exact absurd hi (Nat.not_lt_zero _)
 exact h.elem i hi
theorem RowE.laterB {α:Type} {enc:α→List Value} {w w':World} {sv:Value} {l:List α} (h:RowE enc w sv l) (hb:Below w.heap.size w w'):RowE enc w' sv l:=by
 rcases h with h|⟨g,o,c,rfl,hc,hg,hx⟩
 ·exact .inl h
 refine .inr ⟨g,o,c,rfl,hc,Nat.lt_of_lt_of_le hg hb.size,fun i v hv=>?_⟩;rw [World.cell?_of_block (hb.block g hg)];exact hx i v hv
theorem RIQ.laterB {w w':World} {sv:Value} {l:List RawI} (h:RIQ w sv l) (hb:Below w.heap.size w w'):RIQ w' sv l:=by
 obtain⟨a,c,h1,h2⟩:=h;exact ⟨a,c,h1,h2.imp id (fun h=>h.laterB hb)⟩
theorem RIQ.later {w w':World} {sv:Value} {l:List RawI} (h:RIQ w sv l) (hk:Keep [] w w'):RIQ w' sv l:=h.laterB hk.bz
def ChkAt (l:List RawI) (k:Nat) (p:Option (Iv K)):Prop:=chkL none l=chkL p (l.drop k)∧(k=0→p=none)∧(∀ j (hj:j<l.length),k=j+1→∃ b:Iv K,p=some b∧l[j]=RawI.of b)
theorem ChkAt.start (l:List RawI):ChkAt l 0 none:=⟨rfl,fun _=>rfl,fun j _ h=>by omega⟩
theorem ChkAt.err {l:List RawI} {k:Nat} {p:Option (Iv K)} (h:ChkAt l k p) (hk:k<l.length) (he:eI l[k]≠0):chkL none l=eI l[k]:=by
 rw [h.1,List.drop_eq_getElem_cons hk];exact yfV he _ _
theorem ChkAt.zero {l:List RawI} {p:Option (Iv K)} (h:ChkAt l 0 p) (hk:0<l.length) {i:Iv K} (hi:l[0]=RawI.of i) (hv:i.f<i.l):ChkAt l 1 (some i):=by
 have hp:=h.2.1 rfl;subst hp;refine ⟨?_,fun h=>by omega,fun j hj h=>?_⟩
 ·have h1:=h.1
  rw [List.drop_eq_getElem_cons hk,hi,ydS hv] at h1;exact h1
 obtain rfl:j=0:=by omega
 exact ⟨i,rfl,hi⟩
theorem ChkAt.next {l:List RawI} {j:Nat} {p:Option (Iv K)} (h:ChkAt l (j+1) p) (hk:j+1<l.length) {i:Iv K} (hi:l[j+1]=RawI.of i) (hv:i.f<i.l) :
  ∃ b:Iv K,l[j]'(by omega)=RawI.of b∧((i.f.pt<b.l.pt∨i.f<b.l)→chkL none l=11)∧(¬ (i.f.pt<b.l.pt∨i.f<b.l)→b.l=i.f→chkL none l=5)∧(¬ (i.f.pt<b.l.pt∨i.f<b.l)→b.l≠i.f→ChkAt l (j+2) (some i)):=by
 obtain⟨b,rfl,hb⟩:=h.2.2 j (by omega) rfl;have h1:=h.1;rw [List.drop_eq_getElem_cons hk,hi,yfb hv] at h1;refine ⟨b,hb,fun ho=>by rw [h1,if_pos ho],fun ho he=>by rw [h1,if_neg ho,if_pos he],fun ho he=>⟨by rw [h1,if_neg ho,if_neg he],fun h=>by omega,fun j' hj' h=>?_⟩⟩;obtain rfl:j'=j+1:=by omega
 exact ⟨i,rfl,hi⟩
theorem ChkAt.done {l:List RawI} {p:Option (Iv K)} (h:ChkAt l l.length p):chkL none l=0:=by
 rw [h.1,List.drop_length];rfl
end
section
open Classical
theorem ygW (r:RawI):(prog.info? 49).map (·.size)=some r.C.size:=by
 obtain⟨i,z,hi,hz,hs,hb,hzc⟩:=iv_info;rw [hi];exact congrArg some hs
theorem yef (x:RawR):∀ v∈x.cells,v.oneCell'=true:=by
 intro v hv;simp only [RawR.cells,List.mem_cons,List.not_mem_nil,or_false] at hv;rcases hv with rfl|rfl|rfl|rfl|rfl|rfl|rfl|rfl|rfl<;>rfl
theorem yhw (r:RawI):r.C.all (·.oneCell')=true:=all_oneCell_toArray (by
 intro v hv;unfold RawI.cells at hv;rcases List.mem_append.1 hv with hv|hv
 ·rcases List.mem_append.1 hv with hv|hv
  ·exact yef _ v hv
  exact yef _ v hv
 simp only [List.mem_cons,List.not_mem_nil,or_false] at hv
 rcases hv with rfl|rfl<;>rfl)
theorem cmpB_gt (a b:Bd K):0<cmpB a b↔b<a:=by
 rcases ydN a b with ⟨h,g⟩|⟨h,g⟩|⟨h,g⟩
 ·rw [h];exact ⟨fun _=>g,fun _=>by decide⟩
 ·rw [h];constructor
  ·intro h;exact absurd h (by decide)
  intro h;grind
 rw [h];subst g;constructor
 ·intro h;exact absurd h (by decide)
 intro h;grind
theorem cmpB_eq (a b:Bd K):cmpB a b=0↔a=b:=by
 rcases ydN a b with ⟨h,g⟩|⟨h,g⟩|⟨h,g⟩
 ·rw [h];constructor
  ·intro h;exact absurd h (by decide)
  rintro rfl;grind
 ·rw [h];constructor
  ·intro h;exact absurd h (by decide)
  rintro rfl;grind
 rw [h];exact ⟨fun _=>g,fun _=>rfl⟩
theorem yiv (l:List RawI) (hs:∀ r∈l,r.sz 100000) (w:World) (sv:Value) (hr:RIQ w sv l) (h9:l.length≤1000000) :
  Calls prog 92 #[sv] w fun e w'=>e = .returned (.int .i64 (chkL none l))∧Below w.heap.size w w':=by
 have HR:=jX hr;have HCI:=jX (fun r (h:r∈l)=>pci_p r (hs r h));obtain⟨ao,ac,rfl,_⟩:=hr;clear hs;go_enter func92,ntmps92
 go_wp2_with fail;go_loopw [10] (fun c wr=>∃ (k:Nat) (p:Option (Iv K)),k≤l.length∧c = .int .i64 (k:Int)∧ChkAt l k p∧Below w.heap.size w wr) (fun c _=>l.length-(intOf c).toNat)
 case atStart=>exact ⟨0,none,Nat.zero_le _,rfl,ChkAt.start l,Below.refl _ _⟩
 case round =>
  obtain⟨k,pv,hk,rfl,hca,hb⟩:=hrel;have HA:=jX hca;have HB:=jX hb;clear hca hb;by_cases hlt:k<l.length
  ·obtain⟨g,o,rfl,hg,hat⟩:=RIQ.elem (HR.out.laterB HB.out) k hlt
   have HI:=jX (HCI.out l[k] (List.getElem_mem hlt));have HErr:=jX (HA.out.err hlt);obtain⟨r,hrk⟩:∃ r,l[k]=r:=⟨_,rfl⟩;have Hrk:=jX hrk;rw [hrk] at hat HI HErr;clear hrk;obtain⟨q,hq⟩:∃ q,o+k*20=q:=⟨_,rfl⟩;rw [hq] at hat;have HL:=jX (ybF wr g q r hat);have HBox:=jX (fun (u:World) (b:Nat) (h:u.heap[b]? = some (.cells r.C 49))=>ybF u b 0 r (ycM h));have HCs:=jX (And.intro (ygW r) (And.intro (yhw r) (show r.C.size=20 from rfl)))
   have hrv:r.v = .agg r.C:=rfl;rw [hrv] at HI HL HBox;obtain⟨C,hC⟩:∃ C,r.C=C:=⟨_,rfl⟩;rw [hC] at HI HL HBox HCs;have HC:=jX hC;clear hat hrv hC;have hkc:(k:Int)<(l.length:Int):=by omega
   go_upto_region 3 with (fail)
   refine wp_region_lit ?_;refine' yad (v:=_) (by rfl) (?ha) (fun K hK=>?ka)
   case ha=>(go_simp;try rfl)
   go_simp;refine hK _ _ ?_;clear hK K;refine' yad (v:=_) (by rfl) (?hb) (fun K hK=>?kb)
   case hb=>(go_simp;try rfl)
   go_simp;refine hK _ _ ?_;clear hK K;refine yad (v:=.agg C) (by rfl) (yak _ _ ⟨g,q,none⟩ _ rfl rfl HL.out) (fun K hK=>?_);go_simp;refine hK _ _ ?_;clear hK K;obtain⟨w1,gt,e1,e2,bgt,hgt,_,hk1⟩:=al1 wr (.cells #[.bool false,.string ⟨#[]⟩,.bool false,.string ⟨#[]⟩,.bool false,.string ⟨#[]⟩,.bool false,.string ⟨#[]⟩,.bool false,.bool false,.string ⟨#[]⟩,.bool false,.string ⟨#[]⟩,.bool false,.string ⟨#[]⟩,.bool false,.string ⟨#[]⟩,.bool false,.bool false,.bool false] 49);refine yaq (v:=.pointer (some ⟨wr.heap.size,0,none⟩)) (w':=wr.alloc (.cells #[.bool false,.string ⟨#[]⟩,.bool false,.string ⟨#[]⟩,.bool false,.string ⟨#[]⟩,.bool false,.string ⟨#[]⟩,.bool false,.bool false,.string ⟨#[]⟩,.bool false,.string ⟨#[]⟩,.bool false,.string ⟨#[]⟩,.bool false,.string ⟨#[]⟩,.bool false,.bool false,.bool false] 49)) (by rfl) (yfX _ _ _ rfl) (fun K hK=>?_);rw [← e1,e2];clear e1;go_simp;refine hK _ _ ?_;clear hK K;refine' yad (v:=_) (by rfl) (?hc) (fun K hK=>?kc)
   case hc=>(go_simp;try rfl)
   go_simp;refine hK _ _ ?_;clear hK K;refine yam (by rfl) _ _ _ rfl gt C rfl rfl _ _ bgt HCs.out.1 (by rw [HCs.out.2.2];rfl) HCs.out.2.1 (fun K hK=>?_);obtain⟨w2,e4,b4,k4⟩:=yal (cs:=C) bgt;rw [e4];go_simp;refine hK _ _ ?_;clear hK K e4 HL;have HW2:=jX (show Keep [] wr w2 from hk1.trans k4 (by simp;omega))
   have Bgt:=jX b4;have HB2:=jX (HB.out.trans (Below.mono HW2.out.bz HB.out.size));clear b4 k4 hk1 bgt;go_upto_region 4 with (fail)
   refine wp_region_lit ?_;refine yad (v:=.agg C) (by rfl) (yak _ _ ⟨gt,0,none⟩ _ rfl rfl (HBox.out w2 gt Bgt.out)) (fun K hK=>?_);go_simp;refine hK _ _ ?_;clear hK K;refine wpList_plain (by rfl) (fun K hK=>?_);refine yae 96 #[.agg C] (by go_simp) ?_;refine (HI.out _).mono ?_;rintro e w3 ⟨rfl,hb3⟩;refine ⟨_,rfl,?_⟩;go_simp;refine hK _ _ ?_;clear hK K;have HB3:=jX (HB2.out.trans (Below.mono hb3 HB2.out.size));have B2gt:=jX ((hb3.block gt (yab Bgt.out)).trans Bgt.out);clear Bgt;have Bgt:=B2gt;clear B2gt;clear hb3 HI;have HZ:=jX (@yfQ r);obtain⟨e0,he0⟩:∃ e0,eI r=e0:=⟨_,rfl⟩;rw [he0] at HErr HZ;rw [he0];clear he0;by_cases he:e0=0
   ·subst he
    obtain⟨i,hi,hv⟩:=HZ.out rfl;have Hi:=jX (Hrk.out.trans hi);have Hv:=jX hv;have Hri:=jX hi;clear hi hv HZ HErr;rcases Nat.eq_zero_or_pos k with hk0|hk0
    ·subst hk0
     have HN:=jX (HA.out.zero hlt Hi.out Hv.out);go_wp2_with fail;go_roundw
     case rel=>exact ⟨1,some i,by omega,rfl,HN.out,HB3.out⟩
     case measure=>simp [intOf];omega
    obtain⟨j,hj⟩:∃ j,k=j+1:=⟨k-1,by omega⟩;have hjl:j<l.length:=by omega
    obtain⟨b,hb,n11,n5,nok⟩:∃ b:Iv K,l[j]'hjl=RawI.of b∧((i.f.pt<b.l.pt∨i.f<b.l)→chkL none l=11)∧(¬ (i.f.pt<b.l.pt∨i.f<b.l)→b.l=i.f→chkL none l=5)∧(¬ (i.f.pt<b.l.pt∨i.f<b.l)→b.l≠i.f→ChkAt l (k+1) (some i)):=by
     subst hj;exact ChkAt.next HA.out hlt Hi.out Hv.out
    obtain⟨g',o',e,hg',hat'⟩:=RIQ.elem (HR.out.laterB HB3.out) j hjl;injection e with e;injection e with e1 e2;subst e1 e2;rw [hb] at hat';obtain⟨qb,hqb⟩:∃ qb,o+j*20=qb:=⟨_,rfl⟩;rw [hqb] at hat';have HLb:=jX (ybF w3 g qb (RawI.of b) hat');have hCi:C=iC i:=by rw [← HC.out,Hri.out];rfl
    have N11:=jX n11;have N5:=jX n5;have Nok:=jX nok;have H1:=jX (yiB b);have H2:=jX (yfT i);have H3:=jX (yfs b.l i.f);have H4:=jX (krcmp_c i.f.pt b.l.pt);have HXf:Hid (∀ (u:World),u.heap[gt]? = some (.cells (iC i) 49)→(loadVar 36 ⟨gt,0,none⟩).run prog u = .ok (kv i.f.pt) u):=fun u h=>yat u gt 0 i.f.pt.1 (yaW h).frm;have HXt:Hid (∀ (u:World) (gb:Nat),u.heap[gb]? = some (.cells (iC b) 49)→(loadVar 36 ⟨gb,9,none⟩).run prog u = .ok (kv b.l.pt) u):=fun u gb h=>yat u gb (0+9) b.l.pt.1 (yaW h).upto;have HBb:=jX (fun (u:World) (gb:Nat) (h:u.heap[gb]? = some (.cells (iC b) 49))=>ybH u gb 0 b (yaW h));have HSb:=jX (And.intro (ycq b) (And.intro (ycC b) (show (iC b).size=20 from rfl)))
    have hlt1:=yeA i.f.pt b.l.pt;have hgt1:=cmpB_gt b.l i.f;have heq1:=cmpB_eq b.l i.f;have Hlt1:=jX hlt1;have Hgt1:=jX hgt1;have Heq1:=jX heq1;rw [show (RawI.of b).v = .agg (iC b) from rfl] at HLb
    rw [← hCi] at HXf;rw [show iv i = .agg (iC i) from rfl,← hCi] at H2
    rw [show iv b = .agg (iC b) from rfl] at H1 HBb
    unfold bv at H1 H2 H3;unfold kv at HXf HXt H4;have hsub:(k:Int)-1=(j:Int):=by omega
    have hjc:(j:Int)<(l.length:Int):=by omega
    have hwj:IntKind.i64.wrap (j:Int)=(j:Int):=IntWalk.i64_in _ (by omega);have hj0:(0:Int)≤(j:Int):=by omega
    have hjt:(j:Int).toNat=j:=by omega
    have hke:((k:Int) == 0)=false:=by rw [beq_eq_false_iff_ne];omega
    clear hb n11 n5 nok hCi hlt1 hgt1 heq1 hat' hj;generalize (bcells i.f).toArray=BF at *;generalize (bcells b.l).toArray=BL at *;generalize kC i.f.pt=F1 at *;generalize kC b.l.pt=L1 at *;generalize iC b=CB at *;generalize cmpB b.l i.f=n2 at *;generalize cmpQ i.f.pt.1 b.l.pt.1=n1 at *;go_upto_region 8 with (fail)
    refine wp_region_lit ?_;refine' yad (v:=_) (by rfl) (?hd) (fun K hK=>?kd)
    case hd=>(go_simp;try rfl)
    go_simp;refine hK _ _ ?_;clear hK K;refine' yad (v:=_) (by rfl) (?he) (fun K hK=>?ke)
    case he=>(go_simp;try rfl)
    go_simp;refine hK _ _ ?_;clear hK K;refine' yad (v:=_) (by rfl) (?hf) (fun K hK=>?kf)
    case hf=>(go_simp;try rfl)
    go_simp;refine hK _ _ ?_;clear hK K;refine' yad (v:=_) (by rfl) (?hg) (fun K hK=>?kg)
    case hg=>(go_simp;try rfl)
    go_simp;refine hK _ _ ?_;clear hK K;refine yad (v:=.agg CB) (by rfl) (yak _ _ ⟨g,qb,none⟩ _ rfl rfl HLb.out) (fun K hK=>?_);go_simp;refine hK _ _ ?_;clear hK K;obtain⟨w4,gb,e1,e2,bgb,hgb,_,hk4⟩:=al1 w3 (.cells #[.bool false,.string ⟨#[]⟩,.bool false,.string ⟨#[]⟩,.bool false,.string ⟨#[]⟩,.bool false,.string ⟨#[]⟩,.bool false,.bool false,.string ⟨#[]⟩,.bool false,.string ⟨#[]⟩,.bool false,.string ⟨#[]⟩,.bool false,.string ⟨#[]⟩,.bool false,.bool false,.bool false] 49);refine yaq (v:=.pointer (some ⟨w3.heap.size,0,none⟩)) (w':=w3.alloc (.cells #[.bool false,.string ⟨#[]⟩,.bool false,.string ⟨#[]⟩,.bool false,.string ⟨#[]⟩,.bool false,.string ⟨#[]⟩,.bool false,.bool false,.string ⟨#[]⟩,.bool false,.string ⟨#[]⟩,.bool false,.string ⟨#[]⟩,.bool false,.string ⟨#[]⟩,.bool false,.bool false,.bool false] 49)) (by rfl) (yfX _ _ _ rfl) (fun K hK=>?_);rw [← e1,e2];clear e1;go_simp;refine hK _ _ ?_;clear hK K;refine yam (by rfl) _ _ _ rfl gb CB rfl rfl _ _ bgb HSb.out.1 (by rw [HSb.out.2.2];rfl) HSb.out.2.1 (fun K hK=>?_);obtain⟨w5,e5,b5,k5⟩:=yal (cs:=CB) bgb;rw [e5];go_simp;refine hK _ _ ?_;clear hK K e5 HLb;have HW5:=jX (show Keep [] w3 w5 from hk4.trans k5 (by simp;omega))
    have Bgb:=jX b5;have Bgt5:=jX (HW5.out.heap Bgt.out (by simp));have HB5:=jX (HB3.out.trans (Below.mono HW5.out.bz HB3.out.size));clear b5 k5 hk4 bgb;go_wp2_with fail;have HX1:Hid (∀ m:KW w5,(loadVar 49 ⟨gb,0,none⟩).run prog (Wk w5 m) = .ok (.agg CB) (Wk w5 m)):=fun m=>HBb.out _ gb (m.k.heap Bgb.out (by simp));have HX2:Hid (∀ m:KW w5,(loadVar 49 ⟨gt,0,none⟩).run prog (Wk w5 m) = .ok (.agg C) (Wk w5 m)):=fun m=>HBox.out _ gt (m.k.heap Bgt5.out (by simp));have Q1:Hid (∀ m:KW w5,Calls prog 107 #[.agg CB] (Wk w5 m) fun e w'=>e = .returned (.agg BL)∧∃ m,w'=Wk w5 m):=fun m=>qk m (H1.out _);have Q2:Hid (∀ m:KW w5,Calls prog 106 #[.agg C] (Wk w5 m) fun e w'=>e = .returned (.agg BF)∧∃ m,w'=Wk w5 m):=fun m=>qk m (H2.out _);have Q3:Hid (∀ m:KW w5,Calls prog 105 #[.agg BL,.agg BF] (Wk w5 m) fun e w'=>e = .returned (.int .i64 n2)∧∃ m,w'=Wk w5 m):=fun m=>qk m (H3.out _);refine yac (by kernel_rfl) (by kernel_rfl) ?_
    repeat (first
     | go_big_quiet_skip
     | (go_big_quiet_want;first
      | (refine yai _ _ _ (.agg CB) rfl rfl (by rintro _ ⟨m,rfl⟩;exact HX1.out m) ?_;go_simp;go_big_quiet_on)|(refine yai _ _ _ (.agg C) rfl rfl (by rintro _ ⟨m,rfl⟩;exact HX2.out m) ?_;go_simp;go_big_quiet_on)
      | (go_big_quiet_op;first|go_big_quiet_on|go_big_quiet_call (first
       | (go_at_call 107;with_reducible exact (Q1).out _)|(go_at_call 106;with_reducible exact (Q2).out _)|(go_at_call 105;with_reducible exact (Q3).out _)))))
    refine wpQuiet_nil ?_;rintro w6 ⟨⟨_,hk_w6⟩,rfl⟩;have Bgb6:=jX (hk_w6.heap Bgb.out (by simp));have Bgt6:=jX (hk_w6.heap Bgt5.out (by simp));have HB6:=jX (HB5.out.trans (Below.mono hk_w6.bz HB5.out.size));clear hk_w6 HX1 HX2 Q1 Q2 Q3 H1 H2 H3;go_upto_region 10 with (fail)
    refine wp_region_lit ?_;refine' yad (v:=_) (by rfl) (?hh) (fun K hK=>?kh)
    case hh=>(go_simp;try rfl)
    go_simp;refine hK _ _ ?_;clear hK K;refine yad (v:=.agg F1) (by rfl) (yak _ _ ⟨gt,0,none⟩ _ rfl rfl (HXf.out w6 Bgt6.out)) (fun K hK=>?_);go_simp;refine hK _ _ ?_;clear hK K;refine' yad (v:=_) (by rfl) (?hi) (fun K hK=>?ki)
    case hi=>(go_simp;try rfl)
    go_simp;refine hK _ _ ?_;clear hK K;refine yad (v:=.agg L1) (by rfl) (yak _ _ ⟨gb,9,none⟩ _ rfl rfl (HXt.out w6 gb Bgb6.out)) (fun K hK=>?_);go_simp;refine hK _ _ ?_;clear hK K;refine wpList_plain (by rfl) (fun K hK=>?_);refine yae 77 #[.agg F1,.agg L1] (by go_simp) ?_;refine (H4.out _).mono ?_;rintro e w7 ⟨rfl,hk7⟩;refine ⟨_,rfl,?_⟩;go_simp;refine hK _ _ ?_;clear hK K;have HB7:=jX (HB6.out.trans (Below.mono hk7.bz HB6.out.size));clear hk7 H4;by_cases h1:n1<0
    ·have HE:=jX (N11.out (.inl (Hlt1.out.1 h1)))
     clear N11 N5 Nok;go_wp2_with fail;go_ret
     exact ⟨by rw [HE.out];rfl,HB7.out⟩
    by_cases h2:0<n2
    ·have HE:=jX (N11.out (.inr (Hgt1.out.1 h2)))
     clear N11 N5 Nok;go_wp2_with fail;go_ret
     exact ⟨by rw [HE.out];rfl,HB7.out⟩
    have hno:¬ (i.f.pt<b.l.pt∨i.f<b.l):=fun h=>h.elim (fun h=>h1 (Hlt1.out.2 h)) (fun h=>h2 (Hgt1.out.2 h));by_cases h3:n2=0
    ·have HE:=jX (N5.out hno (Heq1.out.1 h3))
     subst h3;clear N11 N5 Nok hno;go_wp2_with fail;go_ret
     exact ⟨by rw [HE.out];rfl,HB7.out⟩
    have HE:=jX (Nok.out hno (fun h=>h3 (Heq1.out.2 h)));have h3b:(n2 == 0)=false:=by rw [beq_eq_false_iff_ne];exact h3
    clear N11 N5 Nok hno;go_wp2_with fail;go_roundw
    case rel=>exact ⟨k+1,some i,by omega,congrArg (Value.int .i64) (by omega),HE.out,HB7.out⟩
    case measure=>simp [intOf];omega
   have hne:(e0 != 0)=true:=by rw [bne_iff_ne];exact he
   have HE:=jX (HErr.out he);clear HZ HErr he;go_wp2_with fail;go_ret
   exact ⟨by rw [HE.out];rfl,HB3.out⟩
  obtain rfl:k=l.length:=by omega
  have HD:=jX (HA.out.done);go_wp2_with fail;go_ret
  exact ⟨by rw [HD.out];rfl,HB.out⟩
end
section
open Classical
theorem rawI_one (r:RawI):∀ v∈r.cells,v.oneCell'=true:=by
 intro v hv;unfold RawI.cells at hv;rcases List.mem_append.1 hv with hv|hv
 ·rcases List.mem_append.1 hv with hv|hv
  ·exact yef _ v hv
  exact yef _ v hv
 simp only [List.mem_cons,List.not_mem_nil,or_false] at hv;rcases hv with rfl|rfl<;>rfl
abbrev OR_:=OE (fun r:RawI=>r.cells) 49 20
theorem RIR.app {ty:TypeId} {w0 w:World} {v y:Value} {l m:List RawI} (h:OR_ w0 w v l) (hv:v.ownBlock≠none∨0<m.length) (hy:RIR w y m) (hb:l.length+m.length≤1000000000) :
  ∃ v' w',(Builtin.append_ #[27,27] ty #[v,y]).run prog w = .ok v' w'∧OR_ w0 w' v' (l++m)∧v'.ownBlock≠none∧∀ F,(∀ g,v.ownBlock=some g→g∈F)→Keep F w w':=by
 obtain⟨i,z,hi,hz,hs,hbt,hzc⟩:=iv_info;exact OE.app (P:=prog) (bytes:=216) underlying27 hi hz hs hbt (by rw [hzc];rfl) (by decide) yeh rawI_one h hv hy (by unfold maxLen;omega) (by omega)
theorem grow_r (n:Nat) (hn:n≤1000000) (w:World) :
  Calls prog 132 #[.slice none 0 0,.int .i64 (n:Int)] w fun e w'=>∃ v,e = .returned v∧OR_ w w' v []∧(0<n→v.ownBlock≠none):=by
 by_cases h0:n=0
 ·subst h0
  go_enter func132,ntmps132
  go_wp2_with fail;go_ret
  exact ⟨_,rfl,OE.nil w,fun h=>absurd h (by decide)⟩
 obtain⟨i,z,hi,hz,hs,hb,hzc⟩:=iv_info;have hr:=jX (Lib.run_append_nil_zeros (P:=prog) w 27 3 27 49 i z .i64 .i64 underlying27 underlying3 hi hz n (by omega) (by rw [hs];decide) (by omega) (by rw [hb];omega));have ho:=jX (OE.zeros (enc:=fun r:RawI=>r.cells) (e:=49) (k:=20) w z.cells (by rw [hzc];rfl) n (by unfold maxLen;omega));clear hi hz hs hb hzc;have hp:0<n:=by omega
 have hpi:(0:Int)<(n:Int):=by omega
 have hnn:¬ ((n:Int)<0):=by omega
 generalize Builtin.zeroCells z.cells n++Builtin.zeroCells z.cells (grownCap w n 0 49-n)=Z at *;generalize grownCap w n 0 49=C at *;go_enter func132,ntmps132
 go_wp2_with (at_builtin;refine Lib.wpList_append_run _ rfl _ _ _ _ rfl _ _ rfl rfl _ _ hr.out ?_)
 go_ret
 exact ⟨_,rfl,ho.out,fun h=>nomatch (show some w.heap.size=none from h)⟩
theorem OR_.bare {w0 w:World} {v:Value} (h:OR_ w0 w v []) (hv:v.ownBlock=none):v = .slice none 0 0:=by
 rcases h.row.2 with ⟨rfl,_⟩|⟨g,cap,cur,rfl,_⟩
 ·rfl
 simp [Value.ownBlock] at hv
theorem RIR.app0 {ty:TypeId} {w0 w:World} {v y:Value} {l m:List RawI} (h:OR_ w0 w v l) (hv:v.ownBlock=none→l=[]) (hy:RIR w y m) (hb:l.length+m.length≤1000000000) :
  ∃ v' w',(Builtin.append_ #[27,27] ty #[v,y]).run prog w = .ok v' w'∧OR_ w0 w' v' (l++m)∧(v'.ownBlock=none→l++m=[])∧∀ F,(∀ g,v.ownBlock=some g→g∈F)→Keep F w w':=by
 by_cases hc:v.ownBlock≠none∨0<m.length
 ·obtain⟨v',w',h1,h2,h3,h4⟩:=RIR.app (ty:=ty) h hc hy hb
  exact ⟨v',w',h1,h2,fun e=>absurd e h3,h4⟩
 have hvn:v.ownBlock=none:=Classical.byContradiction fun e=>hc (.inl e);have hm:m=[]:=List.eq_nil_of_length_eq_zero (by omega);have hl:=hv hvn;subst hl hm;have hv0:=h.bare hvn;subst hv0;obtain⟨i,z,hi,_⟩:=iv_info;obtain⟨a,c,rfl,_⟩:=hy.form;exact ⟨_,w,ydx underlying27 hi a c w,h,fun _=>rfl,fun F _=>Keep.refl F w⟩
theorem concat_r (l m:List RawI) (w:World) (g:Nat) (va vb:Value) (hb:w.heap[g]? = some (.cells #[va,vb] 27)) (hl:RIR w va l) (hm:RIR w vb m) (h9:l.length+m.length≤1000000) :
  Calls prog 95 #[.slice (some ⟨g,0,none⟩) 2 2] w fun e w'=>∃ v,e = .returned v∧OR_ w w' v (l++m):=by
 have Bg:=jX hb;have HL:=jX hl;have HM:=jX hm;obtain⟨ao,ac,rfl,_⟩:=hl.form;obtain⟨bo,bc,rfl,_⟩:=hm.form;clear hb hl hm;have HG:=jX (fun u=>grow_r (l.length+m.length) h9 u);rw [Int.natCast_add] at HG;go_enter func95,ntmps95
 go_wp2_with fail;go_loopw [3,11] (fun sz c wr=>wr=w∧((c = .int .i64 0∧sz = .int .i64 0)∨(c = .int .i64 1∧sz = .int .i64 (l.length:Int))∨(c = .int .i64 2∧sz = .int .i64 ((l.length:Int)+(m.length:Int))))) (fun _ c _=>2-(intOf c).toNat)
 case atStart=>exact ⟨rfl,.inl ⟨rfl,rfl⟩⟩
 case round =>
  obtain⟨rfl,hrel⟩:=hrel;have pg:=yaa Bg.out;have hlm:IntKind.i64.wrap ((l.length:Int)+(m.length:Int))=(l.length:Int)+(m.length:Int):=IntWalk.i64_in _ (by omega);have hll:IntKind.i64.wrap (l.length:Int)=(l.length:Int):=IntWalk.i64_in _ (by omega);have hn1:¬ ((l.length:Int)<0):=by omega
  have hn2:¬ ((l.length:Int)+(m.length:Int)<0):=by omega
  rcases hrel with ⟨rfl,rfl⟩|⟨rfl,rfl⟩|⟨rfl,rfl⟩
  ·go_wp2_with fail
   go_roundw
   case rel=>exact ⟨by trivial,.inr (.inl ⟨rfl,rfl⟩)⟩
   case measure=>simp [intOf]
  ·go_wp2_with fail
   go_roundw
   case rel=>exact ⟨by trivial,.inr (.inr ⟨rfl,rfl⟩)⟩
   case measure=>simp [intOf]
  rename World=>w;clear hlm hll hn1;go_wp2_with fail;refine (HG.out _).mono ?_;rintro e w1 ⟨v0,rfl,ho0,hb0⟩;dsimp only;have Bg1:=jX (ho0.keep.heap Bg.out (by simp));have HL1:=jX (HL.out.later ho0.keep);have HM1:=jX (HM.out.later ho0.keep);have HO:=jX ho0;have HB:=jX hb0;clear ho0 hb0 pg hn2;go_wp2_with fail;go_loopw [6,27] (fun v c wr=>(c = .int .i64 0∧OR_ w wr v [])∨(c = .int .i64 1∧OR_ w wr v l∧(v.ownBlock=none→l=[]))∨(c = .int .i64 2∧OR_ w wr v (l++m))) (fun _ c _=>2-(intOf c).toNat)
  case atStart=>exact .inl ⟨rfl,HO.out⟩
  case round =>
   rcases hrel with ⟨rfl,ho⟩|⟨rfl,ho,hz⟩|⟨rfl,ho⟩
   ·have pg:=yaa (ho.keep.heap Bg.out (by simp))
    obtain⟨v4,u4,hr4,ho4,hz4,_⟩:=RIR.app0 (ty:=27) ho (fun _=>rfl) (HL.out.later ho.keep) (by simp;omega);rw [List.nil_append] at ho4 hz4;have HO4:=jX ho4;have HZ4:=jX hz4;clear ho4 hz4 ho;go_upto_region 13 with (fail)
    refine wp_region_lit ?_;refine' yad (v:=_) (by rfl) (?ha) (fun K hK=>?ka)
    case ha=>(go_simp;try rfl)
    go_simp;refine hK _ _ ?_;clear hK K;refine' yad (v:=_) (by rfl) (?hb) (fun K hK=>?kb)
    case hb=>(go_simp;try rfl)
    go_simp;refine hK _ _ ?_;clear hK K;refine yaq (by rfl) (yas (.tmp 31) (.tmp 32) 27 _ _ _ rfl rfl rfl hr4) (fun K hK=>?_);go_simp;refine hK _ _ ?_;clear hK K hr4 pg;go_wp2_with fail;go_roundw
    case rel=>exact .inr (.inl ⟨rfl,HO4.out,HZ4.out⟩)
    case measure=>simp [intOf]
   ·have pg:=yaa (ho.keep.heap Bg.out (by simp))
    obtain⟨v4,u4,hr4,ho4,_,_⟩:=RIR.app0 (ty:=27) ho hz (HM.out.later ho.keep) (by omega);have HO4:=jX ho4;clear ho4 hz ho;go_upto_region 13 with (fail)
    refine wp_region_lit ?_;refine' yad (v:=_) (by rfl) (?hc) (fun K hK=>?kc)
    case hc=>(go_simp;try rfl)
    go_simp;refine hK _ _ ?_;clear hK K;refine' yad (v:=_) (by rfl) (?hd) (fun K hK=>?kd)
    case hd=>(go_simp;try rfl)
    go_simp;refine hK _ _ ?_;clear hK K;refine yaq (by rfl) (yas (.tmp 31) (.tmp 32) 27 _ _ _ rfl rfl rfl hr4) (fun K hK=>?_);go_simp;refine hK _ _ ?_;clear hK K hr4 pg;go_wp2_with fail;go_roundw
    case rel=>exact .inr (.inr ⟨rfl,HO4.out⟩)
    case measure=>simp [intOf]
   have HO4:=jX ho;clear ho;go_wp2_with fail;go_ret
   exact ⟨_,rfl,HO4.out⟩
end
section
variable {P:Program} {ops:Array Oper} {Q:Exit→Act→World→Prop} {rest:List Oper} {o:Oper} {a:Act} {w:World}
theorem gWC (hw:Region.wanted o (yielded ops a.tmps)=true)
  (h:∀ K:Act→World→Prop,(∀ a w,wpList P ops Q rest a w→K a w)→o.wp P a w K Q):wpList P ops Q (o :: rest) a w:=by
 unfold wpList;rw [if_pos hw];exact .inl (h _ fun _ _ h=>h)
theorem gWE (hw:Region.wanted o (yielded ops a.tmps)=true)
  (h:∃ v,(execOp a.eval o).run P w = .ok (.value v) w∧∀ K:Act→World→Prop,(∀ a w,wpList P ops Q rest a w→K a w)→K (a.put o.dst v) w):wpList P ops Q (o :: rest) a w:=by
 obtain⟨v,h1,h2⟩:=h;exact gWC hw fun K hK=>yaF v w h1 (h2 K hK)
theorem gWS (hw:Region.wanted o (yielded ops a.tmps)=false)
  (h:∀ K:Act→World→Prop,(∀ a w,wpList P ops Q rest a w→K a w)→K (a.put o.dst undef) w):wpList P ops Q (o :: rest) a w:=by
 unfold wpList;rw [hw];exact h _ fun _ _ h=>h
end
end Go.Proofs.YtejegogbhpmgfaaGreatDoor
