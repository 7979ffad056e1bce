/- Parts of a proof about this translation: La, Ja, Vl, Lb. -/
import Derived.Test.YtpgffjjpiafhpaaGreatDoorA30
import Derived.Test.YtpgffjjpiafhpaaGreatDoorA25
import Derived.Test.YtpgffjjpiafhpaaGreatDoorA24
set_option linter.unusedVariables false
set_option linter.unusedSimpArgs false
set_option linter.unusedSectionVars false
set_option maxRecDepth 100000
set_option maxHeartbeats 8000000
namespace Go.Proofs.YtpgffjjpiafhpaaGreatDoor
open Go.RowKit
section
open Classical
noncomputable def chkL:Option (Iv K)→List RawI→Int
 | _,[]=>0
 | p, r :: l => if h : ∃ i : Iv K, r = RawI.of i then
   (if h.choose.f<h.choose.l then
    (match p with
    | none=>chkL (some h.choose) l
    | some b=>if h.choose.f.pt<b.l.pt∨h.choose.f<b.l then 11 else if b.l=h.choose.f then 5 else chkL (some h.choose) l)
   else 10)
  else 5
theorem chkL_err {r:RawI} (h:eI r≠0) (p:Option (Iv K)) (l:List RawI):chkL p (r :: l)=eI r:=by
 unfold chkL eI at *
 by_cases hx:∃ i:Iv K,r=RawI.of i
 ·rw [dif_pos hx] at h ⊢
  rw [dif_pos hx]
  by_cases hl:hx.choose.f<hx.choose.l
  ·rw [if_pos hl] at h
   exact absurd rfl h
  rw [if_neg hl,if_neg hl]
 rw [dif_neg hx,dif_neg hx]
theorem eI_zero {r:RawI} (h:eI r=0):∃ i:Iv K,r=RawI.of i∧i.f<i.l:=by
 unfold eI at h
 by_cases hx:∃ i:Iv K,r=RawI.of i
 ·rw [dif_pos hx] at h
  by_cases hl:hx.choose.f<hx.choose.l
  ·exact ⟨hx.choose,hx.choose_spec,hl⟩
  rw [if_neg hl] at h
  exact absurd h (by decide)
 rw [dif_neg hx] at h
 exact absurd h (by decide)
theorem chkL_first {i:Iv K} (h:i.f<i.l) (l:List RawI):chkL none (RawI.of i :: l)=chkL (some i) l:=by
 have hx:∃ j:Iv K,RawI.of i=RawI.of j:=⟨i,rfl⟩
 have he:hx.choose=i:=(RawI.of_inj hx.choose_spec).symm
 rw [chkL,dif_pos hx]
 simp only [he]
 rw [if_pos h]
theorem chkL_next {i b:Iv K} (h:i.f<i.l) (l:List RawI):chkL (some b) (RawI.of i :: l)=if i.f.pt<b.l.pt∨i.f<b.l then 11 else if b.l=i.f then 5 else chkL (some i) l:=by
 have hx:∃ j:Iv K,RawI.of i=RawI.of j:=⟨i,rfl⟩
 have he:hx.choose=i:=(RawI.of_inj hx.choose_spec).symm
 rw [chkL,dif_pos hx]
 simp only [he]
 rw [if_pos h]
abbrev RIR:=RowE (fun r:RawI=>r.cells)
theorem rawi_len (r:RawI):r.cells.length=20:=rfl
theorem RIR.elem {w:World} {a:Option Addr} {n c:Nat} {l:List RawI} (h:RIR w (.slice a n c) l) (i:Nat) (hi:i<l.length):∃ g o,a=some ⟨g,o,none⟩∧g<w.heap.size∧RIAt w g (o+i*20) l[i]:=RowE.elem rawi_len h i hi
def RIQ (w:World) (sv:Value) (l:List RawI):Prop:=∃ a c,sv = .slice a l.length c∧(l=[]∨RIR w sv l)
theorem RIQ.elem {w:World} {a:Option Addr} {n c:Nat} {l:List RawI} (h:RIQ w (.slice a n c) l) (i:Nat) (hi:i<l.length):∃ g o,a=some ⟨g,o,none⟩∧g<w.heap.size∧RIAt w g (o+i*20) l[i]:=by
 obtain⟨_,_,_,h⟩:=h
 rcases h with rfl|h
 ·exact absurd hi (Nat.not_lt_zero _)
 exact h.elem i hi
theorem RowE.laterB {α:Type} {enc:α→List Value} {w w':World} {sv:Value} {l:List α} (h:RowE enc w sv l) (hb:Below w.heap.size w w'):RowE enc w' sv l:=by
 rcases h with h|⟨g,o,c,rfl,hc,hg,hx⟩
 ·exact .inl h
 refine .inr ⟨g,o,c,rfl,hc,Nat.lt_of_lt_of_le hg hb.size,fun i v hv=>?_⟩
 rw [World.cell?_of_block (hb.block g hg)]
 exact hx i v hv
theorem RIQ.laterB {w w':World} {sv:Value} {l:List RawI} (h:RIQ w sv l) (hb:Below w.heap.size w w'):RIQ w' sv l:=by
 obtain⟨a,c,h1,h2⟩:=h
 exact ⟨a,c,h1,h2.imp id (fun h=>h.laterB hb)⟩
theorem RIQ.later {w w':World} {sv:Value} {l:List RawI} (h:RIQ w sv l) (hk:Keep [] w w'):RIQ w' sv l:=h.laterB hk.below0
theorem RIAt.keepB {w w':World} {b o:Nat} {r:RawI} (h:RIAt w b o r) (hb:w'.heap[b]? = w.heap[b]?):RIAt w' b o r:=fun k v hk=>by
 rw [World.cell?_of_block hb];exact h k v hk
def ChkAt (l:List RawI) (k:Nat) (p:Option (Iv K)):Prop:=chkL none l=chkL p (l.drop k)∧(k=0→p=none)∧(∀ j (hj:j<l.length),k=j+1→∃ b:Iv K,p=some b∧l[j]=RawI.of b)
theorem ChkAt.start (l:List RawI):ChkAt l 0 none:=⟨rfl,fun _=>rfl,fun j _ h=>by omega⟩
theorem ChkAt.err {l:List RawI} {k:Nat} {p:Option (Iv K)} (h:ChkAt l k p) (hk:k<l.length) (he:eI l[k]≠0):chkL none l=eI l[k]:=by
 rw [h.1,List.drop_eq_getElem_cons hk]
 exact chkL_err he _ _
theorem ChkAt.zero {l:List RawI} {p:Option (Iv K)} (h:ChkAt l 0 p) (hk:0<l.length) {i:Iv K} (hi:l[0]=RawI.of i) (hv:i.f<i.l):ChkAt l 1 (some i):=by
 have hp:=h.2.1 rfl
 subst hp
 refine ⟨?_,fun h=>by omega,fun j hj h=>?_⟩
 ·have h1:=h.1
  rw [List.drop_eq_getElem_cons hk,hi,chkL_first hv] at h1
  exact h1
 obtain rfl:j=0:=by omega
 exact ⟨i,rfl,hi⟩
theorem ChkAt.next {l:List RawI} {j:Nat} {p:Option (Iv K)} (h:ChkAt l (j+1) p) (hk:j+1<l.length) {i:Iv K} (hi:l[j+1]=RawI.of i) (hv:i.f<i.l) :
  ∃ b:Iv K,l[j]'(by omega)=RawI.of b∧((i.f.pt<b.l.pt∨i.f<b.l)→chkL none l=11)∧(¬ (i.f.pt<b.l.pt∨i.f<b.l)→b.l=i.f→chkL none l=5)∧(¬ (i.f.pt<b.l.pt∨i.f<b.l)→b.l≠i.f→ChkAt l (j+2) (some i)):=by
 obtain⟨b,rfl,hb⟩:=h.2.2 j (by omega) rfl
 have h1:=h.1
 rw [List.drop_eq_getElem_cons hk,hi,chkL_next hv] at h1
 refine ⟨b,hb,fun ho=>by rw [h1,if_pos ho],fun ho he=>by rw [h1,if_neg ho,if_pos he],fun ho he=>⟨by rw [h1,if_neg ho,if_neg he],fun h=>by omega,fun j' hj' h=>?_⟩⟩
 obtain rfl:j'=j+1:=by omega
 exact ⟨i,rfl,hi⟩
theorem ChkAt.done {l:List RawI} {p:Option (Iv K)} (h:ChkAt l l.length p):chkL none l=0:=by
 rw [h.1,List.drop_length]
 rfl
end
section
open Classical
theorem check06_c (l:List RawI) (hs:∀ r∈l,r.sz 100000) (w:World) (sv:Value) (hr:RIQ w sv l) (h9:l.length≤1000000) :
  Calls Tryz.prog 18 #[sv] w fun e w'=>e = .returned (.int .i64 (chkL none l))∧Keep [] w w':=by
 have HR:=jX hr
 have HSz:=jX hs
 obtain⟨ao,ac,rfl,_⟩:=hr
 clear hs
 go_enter Tryz.func18,Tryz.ntmps18
 go_wp2_with fail
 go_loopw [3] (fun c wr=>∃ (k:Nat) (p:Option (Iv K)),k≤l.length∧c = .int .i64 (k:Int)∧ChkAt l k p∧Keep [] w wr) (fun c _=>l.length-(intOf c).toNat)
 case atStart=>exact ⟨0,none,Nat.zero_le _,rfl,ChkAt.start l,Keep.refl _ _⟩
 case round =>
  obtain⟨k,pv,hk,rfl,hca,hb⟩:=hrel
  have HA:=jX hca
  have HB:=jX hb
  clear hca hb
  by_cases hlt:k<l.length
  ·obtain⟨g,o,rfl,hg,hat⟩:=RIQ.elem (HR.out.later HB.out) k hlt
   have hsz:=HSz.out l[k] (List.getElem_mem hlt)
   have HErr:=jX (HA.out.err hlt)
   obtain⟨r,hrk⟩:∃ r,l[k]=r:=⟨_,rfl⟩
   have Hrk:=jX hrk
   rw [hrk] at hat hsz HErr
   clear hrk
   obtain⟨q,hq⟩:∃ q,o+k*20=q:=⟨_,rfl⟩
   rw [hq] at hat
   have HAT:=jX hat
   have H1:=jX (isreal_c r.f ⟨Nat.le_trans hsz.1.1 (by decide),Nat.le_trans hsz.1.2.1 (by decide),Nat.le_trans hsz.1.2.2.1 (by decide),Nat.le_trans hsz.1.2.2.2 (by decide)⟩)
   have H2:=jX (isreal_c r.t ⟨Nat.le_trans hsz.2.1 (by decide),Nat.le_trans hsz.2.2.1 (by decide),Nat.le_trans hsz.2.2.2.1 (by decide),Nat.le_trans hsz.2.2.2.2 (by decide)⟩)
   have HLd:=jX (fun (u:World) (hk:Keep [] wr u)=>And.intro (load_raw u g q r.f (hat.keepB (hk.block g hg (by simp))).frm) (load_raw u g (q+9) r.t (hat.keepB (hk.block g hg (by simp))).upto))
   have HLi:=jX (fun (u:World) (hk:Keep [] wr u)=>load_rawi u g q r (hat.keepB (hk.block g hg (by simp))))
   have hkc:(k:Int)<(l.length:Int):=by omega
   have hk0':(0:Int)≤(k:Int):=by omega
   clear hat
   have hno:=@eI_no r
   by_cases hf:r.f.isK
   ·rw [decide_eq_true hf] at H1
    by_cases ht:r.t.isK
    ·rw [decide_eq_true ht] at H2
     obtain⟨i,hi⟩:=RawI.toI hf ht hsz
     have Hi:=jX (Hrk.out.trans hi)
     have HRi:=jX hi
     have H3:=jX (isiv_c i)
     have hiv:iv i = .agg r.C:=by rw [hi];rfl
     have hrv:r.v = .agg r.C:=rfl
     have hqi:=isIvV_iff i
     have he:eI r=if i.f<i.l then 0 else 10:=by rw [hi,eI_of]
     rw [hiv] at H3
     rw [hrv] at HLi
     obtain⟨b0,hb0⟩:∃ b0,isIvV (cmpQ i.f.pt.1 i.l.pt.1) i.f.beh (!i.l.beh)=b0:=⟨_,rfl⟩
     rw [hb0] at hqi H3
     clear hf ht hsz hi hiv hrv hb0 hno
     generalize r.f.v=fv at *
     generalize r.t.v=tv at *
     obtain⟨C,hC⟩:∃ C,r.C=C:=⟨_,rfl⟩
     rw [hC] at H3 HLi
     clear hC
     go_upto_region 4 with (fail)
     refine wp_region_lit ?_
     iterate 4 (first|(refine gWE (by rfl) ?_;refine ⟨?_,?_,fun K hK=>?_⟩;rotate_left;(go_simp;try rfl);go_simp;refine hK _ _ ?_;clear hK K)|(refine gWS (by rfl) (fun K hK=>?_);go_simp;refine hK _ _ ?_;clear hK K))
     refine gWE (by rfl) ⟨fv,exec_load _ _ ⟨g,q,none⟩ _ rfl rfl (HLd.out wr (Keep.refl _ _)).1,fun K hK=>?_⟩
     go_simp
     refine hK _ _ ?_
     clear hK K
     refine gWC (by rfl) (fun K hK=>?_)
     refine wp_enter 26 #[fv] (by go_simp) ?_
     refine (H1.out _).mono ?_
     rintro e w1 ⟨rfl,hk1⟩
     refine ⟨_,rfl,?_⟩
     go_simp
     refine hK _ _ ?_
     clear hK K
     have HK1:=jX hk1
     clear hk1
     iterate 2 (first|(refine gWE (by rfl) ?_;refine ⟨?_,?_,fun K hK=>?_⟩;rotate_left;(go_simp;try rfl);go_simp;refine hK _ _ ?_;clear hK K)|(refine gWS (by rfl) (fun K hK=>?_);go_simp;refine hK _ _ ?_;clear hK K))
     iterate 4 (first|(refine gWE (by rfl) ?_;refine ⟨?_,?_,fun K hK=>?_⟩;rotate_left;(go_simp;try rfl);go_simp;refine hK _ _ ?_;clear hK K)|(refine gWS (by rfl) (fun K hK=>?_);go_simp;refine hK _ _ ?_;clear hK K))
     refine gWE (by rfl) ⟨tv,exec_load _ _ ⟨g,q+9,none⟩ _ rfl rfl (HLd.out w1 HK1.out).2,fun K hK=>?_⟩
     go_simp
     refine hK _ _ ?_
     clear hK K
     refine gWC (by rfl) (fun K hK=>?_)
     refine wp_enter 26 #[tv] (by go_simp) ?_
     refine (H2.out _).mono ?_
     rintro e w2 ⟨rfl,hk2⟩
     refine ⟨_,rfl,?_⟩
     go_simp
     refine hK _ _ ?_
     clear hK K
     have HK2:=jX (HK1.out.trans0 hk2)
     clear hk2
     iterate 2 (first|(refine gWE (by rfl) ?_;refine ⟨?_,?_,fun K hK=>?_⟩;rotate_left;(go_simp;try rfl);go_simp;refine hK _ _ ?_;clear hK K)|(refine gWS (by rfl) (fun K hK=>?_);go_simp;refine hK _ _ ?_;clear hK K))
     go_upto_region 6 with (fail)
     refine wp_region_lit ?_
     iterate 3 (first|(refine gWE (by rfl) ?_;refine ⟨?_,?_,fun K hK=>?_⟩;rotate_left;(go_simp;try rfl);go_simp;refine hK _ _ ?_;clear hK K)|(refine gWS (by rfl) (fun K hK=>?_);go_simp;refine hK _ _ ?_;clear hK K))
     refine gWE (by rfl) ⟨.agg C,exec_load _ _ ⟨g,q,none⟩ _ rfl rfl (HLi.out w2 HK2.out),fun K hK=>?_⟩
     go_simp
     refine hK _ _ ?_
     clear hK K
     refine gWC (by rfl) (fun K hK=>?_)
     refine wp_enter 79 #[.agg C] (by go_simp) ?_
     refine (H3.out _).mono ?_
     rintro e w3 ⟨rfl,hk3⟩
     refine ⟨_,rfl,?_⟩
     go_simp
     refine hK _ _ ?_
     clear hK K
     have HKq:=jX (HK2.out.trans0 hk3)
     have HK3:=jX (HB.out.trans0 HKq.out)
     clear hk3
     first|(refine gWE (by rfl) ?_;refine ⟨?_,?_,fun K hK=>?_⟩;rotate_left;(go_simp;try rfl);go_simp;refine hK _ _ ?_;clear hK K)|(refine gWS (by rfl) (fun K hK=>?_);go_simp;refine hK _ _ ?_;clear hK K)
     have HAi:Hid (IvAt w3 g q i):=jX (by have:=HAT.out.keepB (HKq.out.block g hg (by simp));rw [HRi.out] at this;exact this)
     have hg3:g<w3.heap.size:=Nat.lt_of_lt_of_le hg HKq.out.size
     clear H1 H2 H3 HLd HLi HAT HRi
     cases b0 with
     | false =>
      have hne:eI r≠0:=by rw [he,if_neg (fun h=>Bool.false_ne_true (hqi.2 h))];decide
      have HE:=jX (HErr.out hne)
      rw [he,if_neg (fun h=>Bool.false_ne_true (hqi.2 h))] at HE
      clear hqi he hne HErr
      go_wp2_with fail
      go_ret
      exact ⟨by rw [HE.out];rfl,HK3.out⟩
     | true =>
      have Hv:=jX (hqi.1 rfl)
      clear hqi he HErr
      rcases Nat.eq_zero_or_pos k with hk0|hk0
      ·subst hk0
       have HN:=jX (HA.out.zero hlt Hi.out Hv.out)
       go_wp2_with fail
       go_roundw
       case rel=>exact ⟨1,some i,by omega,rfl,HN.out,HK3.out⟩
       case measure=>simp [intOf];omega
      obtain⟨j,hj⟩:∃ j,k=j+1:=⟨k-1,by omega⟩
      have hjl:j<l.length:=by omega
      obtain⟨b,hb,n11,n5,nok⟩:∃ b:Iv K,l[j]'hjl=RawI.of b∧((i.f.pt<b.l.pt∨i.f<b.l)→chkL none l=11)∧(¬ (i.f.pt<b.l.pt∨i.f<b.l)→b.l=i.f→chkL none l=5)∧(¬ (i.f.pt<b.l.pt∨i.f<b.l)→b.l≠i.f→ChkAt l (k+1) (some i)):=by
       subst hj
       exact ChkAt.next HA.out hlt Hi.out Hv.out
      obtain⟨g',o',e,hg',hat'⟩:=RIQ.elem (HR.out.later HK3.out) j hjl
      injection e with e
      injection e with e1 e2
      subst e1 e2
      rw [hb] at hat'
      obtain⟨qb,hqb⟩:∃ qb,o+j*20=qb:=⟨_,rfl⟩
      rw [hqb] at hat'
      have HAb:Hid (IvAt w3 g qb b):=jX hat'
      have N11:=jX n11
      have N5:=jX n5
      have Nok:=jX nok
      have HS:=jX (seam i.f b.l)
      have H4:=jX (kcmp_c i.f.pt b.l.pt)
      have HXf:=jX (HAi.out.ldf hg3)
      have HXt:=jX (HAb.out.ldt hg3)
      have HO:=jX (fun u (hk:Keep [] w3 u)=>And.intro (HAi.out.keep (hk.block g hg3 (by simp))).opf (HAb.out.keep (hk.block g hg3 (by simp))).opt)
      unfold kv at HXf HXt H4
      have hsub:(k:Int)-1=(j:Int):=by omega
      have hjc:(j:Int)<(l.length:Int):=by omega
      have hwj:IntKind.i64.wrap (j:Int)=(j:Int):=IntWalk.i64_in _ (by omega)
      have hj0:(0:Int)≤(j:Int):=by omega
      have hjt:(j:Int).toNat=j:=by omega
      have hke:((k:Int) == 0)=false:=by rw [beq_eq_false_iff_ne];omega
      clear hb n11 n5 nok hat' hj HAi HAb
      generalize kC i.f.pt=F1 at *
      generalize kC b.l.pt=L1 at *
      obtain⟨n,hn⟩:∃ n,cmpQ i.f.pt.1 b.l.pt.1=n:=⟨_,rfl⟩
      rw [hn] at HS H4
      clear hn
      go_upto_region 9 with (fail)
      have Q1:Hid (∀ m:KW w3,Calls Tryz.prog 80 #[.agg F1,.agg L1] (Wk w3 m) fun e w'=>e = .returned (.int .i64 n)∧∃ m,w'=Wk w3 m):=fun m=>qk m (H4.out _)
      refine wp_region_keep (by kernel_rfl) (by kernel_rfl) ?_
      repeat (first
       | go_big_quiet_skip
       | (go_big_quiet_want;first
        | (refine quiet_load _ _ _ (.agg F1) rfl rfl (by rintro _ ⟨m,rfl⟩;exact HXf.out m) ?_;go_simp;go_big_quiet_on)|(refine quiet_load _ _ _ (.agg L1) rfl rfl (by rintro _ ⟨m,rfl⟩;exact HXt.out m) ?_;go_simp;go_big_quiet_on)
        | (go_big_quiet_op;first|go_big_quiet_on|go_big_quiet_call (first
         | (go_at_call 80;with_reducible exact (Q1).out _)))))
      refine wpQuiet_nil ?_
      rintro w4 ⟨⟨_,hk_w4⟩,rfl⟩
      have HK4:=jX (HK3.out.trans0 hk_w4)
      obtain⟨po,pc⟩:=HO.out _ hk_w4
      clear hk_w4 Q1 H4 HXf HXt HO
      go_upto_region 10 with (fail)
      obtain⟨x,hx⟩:∃ x,i.f.beh=x:=⟨_,rfl⟩
      obtain⟨y,hy⟩:∃ y,b.l.beh=y:=⟨_,rfl⟩
      rw [hx] at po HS
      rw [hy] at pc HS
      clear hx hy
      rcases HS.out with ⟨rfl,hs⟩|⟨rfl,rfl,rfl,hs⟩|⟨rfl,rfl,hs,hs2⟩|⟨rfl,rfl,rfl,hs,hs2⟩|⟨rfl,hs,hs2⟩
      ·have HE:=jX (N11.out hs)
       clear N11 N5 Nok hs HS
       refine wp_region_lit ?_
       generalize hA:Act.mk _ _=A9
       iterate 24 (first|(refine gWE (by subst hA;rfl) ?_;subst hA;refine ⟨?_,?_,fun K hK=>?_⟩;rotate_left;(go_simp;try rfl);go_simp;generalize hA:Act.mk _ _=A9;refine hK _ _ ?_;clear hK K)|(refine gWS (by subst hA;rfl) (fun K hK=>?_);subst hA;go_simp;generalize hA:Act.mk _ _=A9;refine hK _ _ ?_;clear hK K))
       subst hA
       go_wp2_with fail
       go_ret
       exact ⟨by rw [HE.out];rfl,HK4.out⟩
      ·have HE:=jX (N11.out hs)
       clear N11 N5 Nok hs HS
       refine wp_region_lit ?_
       generalize hA:Act.mk _ _=A9
       iterate 24 (first|(refine gWE (by subst hA;rfl) ?_;subst hA;refine ⟨?_,?_,fun K hK=>?_⟩;rotate_left;(go_simp;try rfl);go_simp;generalize hA:Act.mk _ _=A9;refine hK _ _ ?_;clear hK K)|(refine gWS (by subst hA;rfl) (fun K hK=>?_);subst hA;go_simp;generalize hA:Act.mk _ _=A9;refine hK _ _ ?_;clear hK K))
       subst hA
       go_wp2_with fail
       go_ret
       exact ⟨by rw [HE.out];rfl,HK4.out⟩
      ·have HE:=jX (N5.out hs hs2)
       clear N11 N5 Nok hs hs2 HS
       cases x
       ·skip
        refine wp_region_lit ?_
        generalize hA:Act.mk _ _=A9
        iterate 24 (first|(refine gWE (by subst hA;rfl) ?_;subst hA;refine ⟨?_,?_,fun K hK=>?_⟩;rotate_left;(go_simp;try rfl);go_simp;generalize hA:Act.mk _ _=A9;refine hK _ _ ?_;clear hK K)|(refine gWS (by subst hA;rfl) (fun K hK=>?_);subst hA;go_simp;generalize hA:Act.mk _ _=A9;refine hK _ _ ?_;clear hK K))
        subst hA
        go_upto_region 12 with (fail)
        refine wp_region_lit ?_
        generalize hA:Act.mk _ _=A9
        iterate 19 (first|(refine gWE (by subst hA;rfl) ?_;subst hA;refine ⟨?_,?_,fun K hK=>?_⟩;rotate_left;(go_simp;try rfl);go_simp;generalize hA:Act.mk _ _=A9;refine hK _ _ ?_;clear hK K)|(refine gWS (by subst hA;rfl) (fun K hK=>?_);subst hA;go_simp;generalize hA:Act.mk _ _=A9;refine hK _ _ ?_;clear hK K))
        subst hA
        go_wp2_with fail
        go_ret
        exact ⟨by rw [HE.out];rfl,HK4.out⟩
       skip
       refine wp_region_lit ?_
       generalize hA:Act.mk _ _=A9
       iterate 24 (first|(refine gWE (by subst hA;rfl) ?_;subst hA;refine ⟨?_,?_,fun K hK=>?_⟩;rotate_left;(go_simp;try rfl);go_simp;generalize hA:Act.mk _ _=A9;refine hK _ _ ?_;clear hK K)|(refine gWS (by subst hA;rfl) (fun K hK=>?_);subst hA;go_simp;generalize hA:Act.mk _ _=A9;refine hK _ _ ?_;clear hK K))
       subst hA
       go_upto_region 12 with (fail)
       refine wp_region_lit ?_
       generalize hA:Act.mk _ _=A9
       iterate 19 (first|(refine gWE (by subst hA;rfl) ?_;subst hA;refine ⟨?_,?_,fun K hK=>?_⟩;rotate_left;(go_simp;try rfl);go_simp;generalize hA:Act.mk _ _=A9;refine hK _ _ ?_;clear hK K)|(refine gWS (by subst hA;rfl) (fun K hK=>?_);subst hA;go_simp;generalize hA:Act.mk _ _=A9;refine hK _ _ ?_;clear hK K))
       subst hA
       go_wp2_with fail
       go_ret
       exact ⟨by rw [HE.out];rfl,HK4.out⟩
      ·have HE:=jX (Nok.out hs hs2)
       clear N11 N5 Nok hs hs2 HS
       refine wp_region_lit ?_
       generalize hA:Act.mk _ _=A9
       iterate 24 (first|(refine gWE (by subst hA;rfl) ?_;subst hA;refine ⟨?_,?_,fun K hK=>?_⟩;rotate_left;(go_simp;try rfl);go_simp;generalize hA:Act.mk _ _=A9;refine hK _ _ ?_;clear hK K)|(refine gWS (by subst hA;rfl) (fun K hK=>?_);subst hA;go_simp;generalize hA:Act.mk _ _=A9;refine hK _ _ ?_;clear hK K))
       subst hA
       go_upto_region 12 with (fail)
       refine wp_region_lit ?_
       generalize hA:Act.mk _ _=A9
       iterate 19 (first|(refine gWE (by subst hA;rfl) ?_;subst hA;refine ⟨?_,?_,fun K hK=>?_⟩;rotate_left;(go_simp;try rfl);go_simp;generalize hA:Act.mk _ _=A9;refine hK _ _ ?_;clear hK K)|(refine gWS (by subst hA;rfl) (fun K hK=>?_);subst hA;go_simp;generalize hA:Act.mk _ _=A9;refine hK _ _ ?_;clear hK K))
       subst hA
       go_wp2_with fail
       go_roundw
       case rel=>exact ⟨k+1,some i,by omega,congrArg (Value.int .i64) (by omega),HE.out,HK4.out⟩
       case measure=>simp [intOf];omega
      have HE:=jX (Nok.out hs hs2)
      clear N11 N5 Nok hs hs2 HS
      refine wp_region_lit ?_
      generalize hA:Act.mk _ _=A9
      iterate 24 (first|(refine gWE (by subst hA;rfl) ?_;subst hA;refine ⟨?_,?_,fun K hK=>?_⟩;rotate_left;(go_simp;try rfl);go_simp;generalize hA:Act.mk _ _=A9;refine hK _ _ ?_;clear hK K)|(refine gWS (by subst hA;rfl) (fun K hK=>?_);subst hA;go_simp;generalize hA:Act.mk _ _=A9;refine hK _ _ ?_;clear hK K))
      subst hA
      go_upto_region 12 with (fail)
      refine wp_region_lit ?_
      generalize hA:Act.mk _ _=A9
      iterate 19 (first|(refine gWE (by subst hA;rfl) ?_;subst hA;refine ⟨?_,?_,fun K hK=>?_⟩;rotate_left;(go_simp;try rfl);go_simp;generalize hA:Act.mk _ _=A9;refine hK _ _ ?_;clear hK K)|(refine gWS (by subst hA;rfl) (fun K hK=>?_);subst hA;go_simp;generalize hA:Act.mk _ _=A9;refine hK _ _ ?_;clear hK K))
      subst hA
      go_wp2_with fail
      go_roundw
      case rel=>exact ⟨k+1,some i,by omega,congrArg (Value.int .i64) (by omega),HE.out,HK4.out⟩
      case measure=>simp [intOf];omega
    rw [decide_eq_false ht] at H2
    have he:eI r=5:=hno (fun h=>ht h.2)
    have HE:=jX (HErr.out (by rw [he];decide))
    rw [he] at HE
    clear hf ht hsz he hno HErr HLi
    generalize r.f.v=fv at *
    generalize r.t.v=tv at *
    go_upto_region 4 with (fail)
    refine wp_region_lit ?_
    iterate 4 (first|(refine gWE (by rfl) ?_;refine ⟨?_,?_,fun K hK=>?_⟩;rotate_left;(go_simp;try rfl);go_simp;refine hK _ _ ?_;clear hK K)|(refine gWS (by rfl) (fun K hK=>?_);go_simp;refine hK _ _ ?_;clear hK K))
    refine gWE (by rfl) ⟨fv,exec_load _ _ ⟨g,q,none⟩ _ rfl rfl (HLd.out wr (Keep.refl _ _)).1,fun K hK=>?_⟩
    go_simp
    refine hK _ _ ?_
    clear hK K
    refine gWC (by rfl) (fun K hK=>?_)
    refine wp_enter 26 #[fv] (by go_simp) ?_
    refine (H1.out _).mono ?_
    rintro e w1 ⟨rfl,hk1⟩
    refine ⟨_,rfl,?_⟩
    go_simp
    refine hK _ _ ?_
    clear hK K
    have HK1:=jX hk1
    clear hk1
    iterate 2 (first|(refine gWE (by rfl) ?_;refine ⟨?_,?_,fun K hK=>?_⟩;rotate_left;(go_simp;try rfl);go_simp;refine hK _ _ ?_;clear hK K)|(refine gWS (by rfl) (fun K hK=>?_);go_simp;refine hK _ _ ?_;clear hK K))
    iterate 4 (first|(refine gWE (by rfl) ?_;refine ⟨?_,?_,fun K hK=>?_⟩;rotate_left;(go_simp;try rfl);go_simp;refine hK _ _ ?_;clear hK K)|(refine gWS (by rfl) (fun K hK=>?_);go_simp;refine hK _ _ ?_;clear hK K))
    refine gWE (by rfl) ⟨tv,exec_load _ _ ⟨g,q+9,none⟩ _ rfl rfl (HLd.out w1 HK1.out).2,fun K hK=>?_⟩
    go_simp
    refine hK _ _ ?_
    clear hK K
    refine gWC (by rfl) (fun K hK=>?_)
    refine wp_enter 26 #[tv] (by go_simp) ?_
    refine (H2.out _).mono ?_
    rintro e w2 ⟨rfl,hk2⟩
    refine ⟨_,rfl,?_⟩
    go_simp
    refine hK _ _ ?_
    clear hK K
    have HK2:=jX (HK1.out.trans0 hk2)
    clear hk2
    iterate 2 (first|(refine gWE (by rfl) ?_;refine ⟨?_,?_,fun K hK=>?_⟩;rotate_left;(go_simp;try rfl);go_simp;refine hK _ _ ?_;clear hK K)|(refine gWS (by rfl) (fun K hK=>?_);go_simp;refine hK _ _ ?_;clear hK K))
    go_wp2_with fail
    go_ret
    exact ⟨by rw [HE.out];rfl,HB.out.trans0 HK2.out⟩
   rw [decide_eq_false hf] at H1
   have he:eI r=5:=hno (fun h=>hf h.1)
   have HE:=jX (HErr.out (by rw [he];decide))
   rw [he] at HE
   clear hf hsz he hno HErr HLi H2
   generalize r.f.v=fv at *
   generalize r.t.v=tv at *
   go_upto_region 4 with (fail)
   refine wp_region_lit ?_
   iterate 4 (first|(refine gWE (by rfl) ?_;refine ⟨?_,?_,fun K hK=>?_⟩;rotate_left;(go_simp;try rfl);go_simp;refine hK _ _ ?_;clear hK K)|(refine gWS (by rfl) (fun K hK=>?_);go_simp;refine hK _ _ ?_;clear hK K))
   refine gWE (by rfl) ⟨fv,exec_load _ _ ⟨g,q,none⟩ _ rfl rfl (HLd.out wr (Keep.refl _ _)).1,fun K hK=>?_⟩
   go_simp
   refine hK _ _ ?_
   clear hK K
   refine gWC (by rfl) (fun K hK=>?_)
   refine wp_enter 26 #[fv] (by go_simp) ?_
   refine (H1.out _).mono ?_
   rintro e w1 ⟨rfl,hk1⟩
   refine ⟨_,rfl,?_⟩
   go_simp
   refine hK _ _ ?_
   clear hK K
   have HK1:=jX hk1
   clear hk1
   iterate 2 (first|(refine gWE (by rfl) ?_;refine ⟨?_,?_,fun K hK=>?_⟩;rotate_left;(go_simp;try rfl);go_simp;refine hK _ _ ?_;clear hK K)|(refine gWS (by rfl) (fun K hK=>?_);go_simp;refine hK _ _ ?_;clear hK K))
   iterate 8 (first|(refine gWE (by rfl) ?_;refine ⟨?_,?_,fun K hK=>?_⟩;rotate_left;(go_simp;try rfl);go_simp;refine hK _ _ ?_;clear hK K)|(refine gWS (by rfl) (fun K hK=>?_);go_simp;refine hK _ _ ?_;clear hK K))
   go_wp2_with fail
   go_ret
   exact ⟨by rw [HE.out];rfl,HB.out.trans0 HK1.out⟩
  obtain rfl:k=l.length:=by omega
  have HD:=jX (HA.out.done)
  go_wp2_with fail
  go_ret
  exact ⟨by rw [HD.out];rfl,HB.out⟩
end
section
open Go.RowKit Go.Sort Go.Shelf
section
variable {P:Program} {ρ:Ren} {α:Type} [Inhabited α] {enc:α→List Value} {k:Nat}
end
instance:Inhabited K:=⟨kZ⟩
theorem cmpK_lt (a b:K):cmpQ a.1 b.1<0↔a<b:=by
 rcases K.tri a b with ⟨h,g⟩|⟨h,g⟩|⟨h,g⟩
 ·rw [h];constructor
  ·intro h;exact absurd h (by decide)
  intro h;exact absurd (K.trans g h) (K.irrefl _)
 ·rw [h];exact ⟨fun _=>g,fun _=>by decide⟩
 rw [h];subst g;constructor
 ·intro h;exact absurd h (by decide)
 intro h;exact absurd h (K.irrefl _)
end
section
open Classical
theorem rawC_size (r:RawI):(Tryz.prog.info? 32).map (·.size)=some r.C.size:=by
 obtain⟨i,z,hi,hz,hs,hb,hzc⟩:=iv_info
 rw [hi]
 exact congrArg some hs
theorem rawR_one (x:RawR):∀ v∈x.cells,v.oneCell'=true:=by
 intro v hv
 simp only [RawR.cells,List.mem_cons,List.not_mem_nil,or_false] at hv
 rcases hv with rfl|rfl|rfl|rfl|rfl|rfl|rfl|rfl|rfl<;>rfl
theorem rawC_ones (r:RawI):r.C.all (·.oneCell')=true:=all_oneCell_toArray (by
 intro v hv
 unfold RawI.cells at hv
 rcases List.mem_append.1 hv with hv|hv
 ·rcases List.mem_append.1 hv with hv|hv
  ·exact rawR_one _ v hv
  exact rawR_one _ v hv
 simp only [List.mem_cons,List.not_mem_nil,or_false] at hv
 rcases hv with rfl|rfl<;>rfl)
theorem cmpB_gt (a b:Bd K):0<cmpB a b↔b<a:=by
 rcases cmpB_tri a b with ⟨h,g⟩|⟨h,g⟩|⟨h,g⟩
 ·rw [h];exact ⟨fun _=>g,fun _=>by decide⟩
 ·rw [h];constructor
  ·intro h;exact absurd h (by decide)
  intro h;grind
 rw [h];subst g;constructor
 ·intro h;exact absurd h (by decide)
 intro h;grind
theorem cmpB_eq (a b:Bd K):cmpB a b=0↔a=b:=by
 rcases cmpB_tri a b with ⟨h,g⟩|⟨h,g⟩|⟨h,g⟩
 ·rw [h];constructor
  ·intro h;exact absurd h (by decide)
  rintro rfl;grind
 ·rw [h];constructor
  ·intro h;exact absurd h (by decide)
  rintro rfl;grind
 rw [h];exact ⟨fun _=>g,fun _=>rfl⟩
theorem pcheck_p (l:List RawI) (hs:∀ r∈l,r.sz 100000) (w:World) (sv:Value) (hr:RIQ w sv l) (h9:l.length≤1000000) :
  Calls Tryz.prog 19 #[sv] w fun e w'=>e = .returned (.int .i64 (chkL none l))∧Below w.heap.size w w':=by
 have HR:=jX hr
 have HCI:=jX (fun r (h:r∈l)=>pci_p r (hs r h))
 obtain⟨ao,ac,rfl,_⟩:=hr
 clear hs
 go_enter Tryz.func19,Tryz.ntmps19
 go_wp2_with fail
 go_loopw [10] (fun c wr=>∃ (k:Nat) (p:Option (Iv K)),k≤l.length∧c = .int .i64 (k:Int)∧ChkAt l k p∧Below w.heap.size w wr) (fun c _=>l.length-(intOf c).toNat)
 case atStart=>exact ⟨0,none,Nat.zero_le _,rfl,ChkAt.start l,Below.refl _ _⟩
 case round =>
  obtain⟨k,pv,hk,rfl,hca,hb⟩:=hrel
  have HA:=jX hca
  have HB:=jX hb
  clear hca hb
  by_cases hlt:k<l.length
  ·obtain⟨g,o,rfl,hg,hat⟩:=RIQ.elem (HR.out.laterB HB.out) k hlt
   have HI:=jX (HCI.out l[k] (List.getElem_mem hlt))
   have HErr:=jX (HA.out.err hlt)
   obtain⟨r,hrk⟩:∃ r,l[k]=r:=⟨_,rfl⟩
   have Hrk:=jX hrk
   rw [hrk] at hat HI HErr
   clear hrk
   obtain⟨q,hq⟩:∃ q,o+k*20=q:=⟨_,rfl⟩
   rw [hq] at hat
   have HL:=jX (load_rawi wr g q r hat)
   have HBox:=jX (fun (u:World) (b:Nat) (h:u.heap[b]? = some (.cells r.C 32))=>load_rawi u b 0 r (rAt_box h))
   have HCs:=jX (And.intro (rawC_size r) (And.intro (rawC_ones r) (show r.C.size=20 from rfl)))
   have hrv:r.v = .agg r.C:=rfl
   rw [hrv] at HI HL HBox
   obtain⟨C,hC⟩:∃ C,r.C=C:=⟨_,rfl⟩
   rw [hC] at HI HL HBox HCs
   have HC:=jX hC
   clear hat hrv hC
   have hkc:(k:Int)<(l.length:Int):=by omega
   go_upto_region 3 with (fail)
   refine wp_region_lit ?_
   refine' wpList_R (v:=_) (by rfl) (?ha) (fun K hK=>?ka)
   case ha=>(go_simp;try rfl)
   go_simp
   refine hK _ _ ?_
   clear hK K
   refine' wpList_R (v:=_) (by rfl) (?hb) (fun K hK=>?kb)
   case hb=>(go_simp;try rfl)
   go_simp
   refine hK _ _ ?_
   clear hK K
   refine wpList_R (v:=.agg C) (by rfl) (exec_load _ _ ⟨g,q,none⟩ _ rfl rfl HL.out) (fun K hK=>?_)
   go_simp
   refine hK _ _ ?_
   clear hK K
   obtain⟨w1,gt,e1,e2,bgt,hgt,_,hk1⟩:=al1 wr (.cells #[.bool false,.string ⟨#[]⟩,.bool false,.string ⟨#[]⟩,.bool false,.string ⟨#[]⟩,.bool false,.string ⟨#[]⟩,.bool false,.bool false,.string ⟨#[]⟩,.bool false,.string ⟨#[]⟩,.bool false,.string ⟨#[]⟩,.bool false,.string ⟨#[]⟩,.bool false,.bool false,.bool false] 32)
   refine wpList_K (v:=.pointer (some ⟨wr.heap.size,0,none⟩)) (w':=wr.alloc (.cells #[.bool false,.string ⟨#[]⟩,.bool false,.string ⟨#[]⟩,.bool false,.string ⟨#[]⟩,.bool false,.string ⟨#[]⟩,.bool false,.bool false,.string ⟨#[]⟩,.bool false,.string ⟨#[]⟩,.bool false,.string ⟨#[]⟩,.bool false,.string ⟨#[]⟩,.bool false,.bool false,.bool false] 32)) (by rfl) (al_iv _ _ _ rfl) (fun K hK=>?_)
   rw [← e1,e2]
   clear e1
   go_simp
   refine hK _ _ ?_
   clear hK K
   refine' wpList_R (v:=_) (by rfl) (?hc) (fun K hK=>?kc)
   case hc=>(go_simp;try rfl)
   go_simp
   refine hK _ _ ?_
   clear hK K
   refine wpList_rowK (by rfl) _ _ _ rfl gt C rfl rfl _ _ bgt HCs.out.1 (by rw [HCs.out.2.2];rfl) HCs.out.2.1 (fun K hK=>?_)
   obtain⟨w2,e4,b4,k4⟩:=setRow_at (cs:=C) bgt
   rw [e4]
   go_simp
   refine hK _ _ ?_
   clear hK K e4 HL
   have HW2:=jX (show Keep [] wr w2 from hk1.trans k4 (by simp;omega))
   have Bgt:=jX b4
   have HB2:=jX (HB.out.trans (Below.mono HW2.out.below0 HB.out.size))
   clear b4 k4 hk1 bgt
   go_upto_region 4 with (fail)
   refine wp_region_lit ?_
   refine wpList_R (v:=.agg C) (by rfl) (exec_load _ _ ⟨gt,0,none⟩ _ rfl rfl (HBox.out w2 gt Bgt.out)) (fun K hK=>?_)
   go_simp
   refine hK _ _ ?_
   clear hK K
   refine wpList_plain (by rfl) (fun K hK=>?_)
   refine wp_enter 17 #[.agg C] (by go_simp) ?_
   refine (HI.out _).mono ?_
   rintro e w3 ⟨rfl,hb3⟩
   refine ⟨_,rfl,?_⟩
   go_simp
   refine hK _ _ ?_
   clear hK K
   have HB3:=jX (HB2.out.trans (Below.mono hb3 HB2.out.size))
   have B2gt:=jX ((hb3.block gt (lt_of_heap Bgt.out)).trans Bgt.out)
   clear Bgt
   have Bgt:=B2gt
   clear B2gt
   clear hb3 HI
   have HZ:=jX (@eI_zero r)
   obtain⟨e0,he0⟩:∃ e0,eI r=e0:=⟨_,rfl⟩
   rw [he0] at HErr HZ
   rw [he0]
   clear he0
   by_cases he:e0=0
   ·subst he
    obtain⟨i,hi,hv⟩:=HZ.out rfl
    have Hi:=jX (Hrk.out.trans hi)
    have Hv:=jX hv
    have Hri:=jX hi
    clear hi hv HZ HErr
    rcases Nat.eq_zero_or_pos k with hk0|hk0
    ·subst hk0
     have HN:=jX (HA.out.zero hlt Hi.out Hv.out)
     go_wp2_with fail
     go_roundw
     case rel=>exact ⟨1,some i,by omega,rfl,HN.out,HB3.out⟩
     case measure=>simp [intOf];omega
    obtain⟨j,hj⟩:∃ j,k=j+1:=⟨k-1,by omega⟩
    have hjl:j<l.length:=by omega
    obtain⟨b,hb,n11,n5,nok⟩:∃ b:Iv K,l[j]'hjl=RawI.of b∧((i.f.pt<b.l.pt∨i.f<b.l)→chkL none l=11)∧(¬ (i.f.pt<b.l.pt∨i.f<b.l)→b.l=i.f→chkL none l=5)∧(¬ (i.f.pt<b.l.pt∨i.f<b.l)→b.l≠i.f→ChkAt l (k+1) (some i)):=by
     subst hj
     exact ChkAt.next HA.out hlt Hi.out Hv.out
    obtain⟨g',o',e,hg',hat'⟩:=RIQ.elem (HR.out.laterB HB3.out) j hjl
    injection e with e
    injection e with e1 e2
    subst e1 e2
    rw [hb] at hat'
    obtain⟨qb,hqb⟩:∃ qb,o+j*20=qb:=⟨_,rfl⟩
    rw [hqb] at hat'
    have HLb:=jX (load_rawi w3 g qb (RawI.of b) hat')
    have hCi:C=iC i:=by rw [← HC.out,Hri.out];rfl
    have N11:=jX n11
    have N5:=jX n5
    have Nok:=jX nok
    have H1:=jX (last_c b)
    have H2:=jX (first_c i)
    have H3:=jX (bcmp_c b.l i.f)
    have H4:=jX (krcmp_c i.f.pt b.l.pt)
    have HXf:Hid (∀ (u:World),u.heap[gt]? = some (.cells (iC i) 32)→(loadVar 30 ⟨gt,0,none⟩).run Tryz.prog u = .ok (kv i.f.pt) u):=fun u h=>load_real u gt 0 i.f.pt.1 (ivAt_box h).frm
    have HXt:Hid (∀ (u:World) (gb:Nat),u.heap[gb]? = some (.cells (iC b) 32)→(loadVar 30 ⟨gb,9,none⟩).run Tryz.prog u = .ok (kv b.l.pt) u):=fun u gb h=>load_real u gb (0+9) b.l.pt.1 (ivAt_box h).upto
    have HBb:=jX (fun (u:World) (gb:Nat) (h:u.heap[gb]? = some (.cells (iC b) 32))=>load_iv u gb 0 b (ivAt_box h))
    have HSb:=jX (And.intro (iv_size b) (And.intro (iv_ones b) (show (iC b).size=20 from rfl)))
    have hlt1:=cmpK_lt i.f.pt b.l.pt
    have hgt1:=cmpB_gt b.l i.f
    have heq1:=cmpB_eq b.l i.f
    have Hlt1:=jX hlt1
    have Hgt1:=jX hgt1
    have Heq1:=jX heq1
    rw [show (RawI.of b).v = .agg (iC b) from rfl] at HLb
    rw [← hCi] at HXf
    rw [show iv i = .agg (iC i) from rfl,← hCi] at H2
    rw [show iv b = .agg (iC b) from rfl] at H1 HBb
    unfold bv at H1 H2 H3
    unfold kv at HXf HXt H4
    have hsub:(k:Int)-1=(j:Int):=by omega
    have hjc:(j:Int)<(l.length:Int):=by omega
    have hwj:IntKind.i64.wrap (j:Int)=(j:Int):=IntWalk.i64_in _ (by omega)
    have hj0:(0:Int)≤(j:Int):=by omega
    have hjt:(j:Int).toNat=j:=by omega
    have hke:((k:Int) == 0)=false:=by rw [beq_eq_false_iff_ne];omega
    clear hb n11 n5 nok hCi hlt1 hgt1 heq1 hat' hj
    generalize (bcells i.f).toArray=BF at *
    generalize (bcells b.l).toArray=BL at *
    generalize kC i.f.pt=F1 at *
    generalize kC b.l.pt=L1 at *
    generalize iC b=CB at *
    generalize cmpB b.l i.f=n2 at *
    generalize cmpQ i.f.pt.1 b.l.pt.1=n1 at *
    go_upto_region 8 with (fail)
    refine wp_region_lit ?_
    refine' wpList_R (v:=_) (by rfl) (?hd) (fun K hK=>?kd)
    case hd=>(go_simp;try rfl)
    go_simp
    refine hK _ _ ?_
    clear hK K
    refine' wpList_R (v:=_) (by rfl) (?he) (fun K hK=>?ke)
    case he=>(go_simp;try rfl)
    go_simp
    refine hK _ _ ?_
    clear hK K
    refine' wpList_R (v:=_) (by rfl) (?hf) (fun K hK=>?kf)
    case hf=>(go_simp;try rfl)
    go_simp
    refine hK _ _ ?_
    clear hK K
    refine' wpList_R (v:=_) (by rfl) (?hg) (fun K hK=>?kg)
    case hg=>(go_simp;try rfl)
    go_simp
    refine hK _ _ ?_
    clear hK K
    refine wpList_R (v:=.agg CB) (by rfl) (exec_load _ _ ⟨g,qb,none⟩ _ rfl rfl HLb.out) (fun K hK=>?_)
    go_simp
    refine hK _ _ ?_
    clear hK K
    obtain⟨w4,gb,e1,e2,bgb,hgb,_,hk4⟩:=al1 w3 (.cells #[.bool false,.string ⟨#[]⟩,.bool false,.string ⟨#[]⟩,.bool false,.string ⟨#[]⟩,.bool false,.string ⟨#[]⟩,.bool false,.bool false,.string ⟨#[]⟩,.bool false,.string ⟨#[]⟩,.bool false,.string ⟨#[]⟩,.bool false,.string ⟨#[]⟩,.bool false,.bool false,.bool false] 32)
    refine wpList_K (v:=.pointer (some ⟨w3.heap.size,0,none⟩)) (w':=w3.alloc (.cells #[.bool false,.string ⟨#[]⟩,.bool false,.string ⟨#[]⟩,.bool false,.string ⟨#[]⟩,.bool false,.string ⟨#[]⟩,.bool false,.bool false,.string ⟨#[]⟩,.bool false,.string ⟨#[]⟩,.bool false,.string ⟨#[]⟩,.bool false,.string ⟨#[]⟩,.bool false,.bool false,.bool false] 32)) (by rfl) (al_iv _ _ _ rfl) (fun K hK=>?_)
    rw [← e1,e2]
    clear e1
    go_simp
    refine hK _ _ ?_
    clear hK K
    refine wpList_rowK (by rfl) _ _ _ rfl gb CB rfl rfl _ _ bgb HSb.out.1 (by rw [HSb.out.2.2];rfl) HSb.out.2.1 (fun K hK=>?_)
    obtain⟨w5,e5,b5,k5⟩:=setRow_at (cs:=CB) bgb
    rw [e5]
    go_simp
    refine hK _ _ ?_
    clear hK K e5 HLb
    have HW5:=jX (show Keep [] w3 w5 from hk4.trans k5 (by simp;omega))
    have Bgb:=jX b5
    have Bgt5:=jX (HW5.out.heap Bgt.out (by simp))
    have HB5:=jX (HB3.out.trans (Below.mono HW5.out.below0 HB3.out.size))
    clear b5 k5 hk4 bgb
    go_wp2_with fail
    have HX1:Hid (∀ m:KW w5,(loadVar 32 ⟨gb,0,none⟩).run Tryz.prog (Wk w5 m) = .ok (.agg CB) (Wk w5 m)):=fun m=>HBb.out _ gb (m.k.heap Bgb.out (by simp))
    have HX2:Hid (∀ m:KW w5,(loadVar 32 ⟨gt,0,none⟩).run Tryz.prog (Wk w5 m) = .ok (.agg C) (Wk w5 m)):=fun m=>HBox.out _ gt (m.k.heap Bgt5.out (by simp))
    have Q1:Hid (∀ m:KW w5,Calls Tryz.prog 78 #[.agg CB] (Wk w5 m) fun e w'=>e = .returned (.agg BL)∧∃ m,w'=Wk w5 m):=fun m=>qk m (H1.out _)
    have Q2:Hid (∀ m:KW w5,Calls Tryz.prog 77 #[.agg C] (Wk w5 m) fun e w'=>e = .returned (.agg BF)∧∃ m,w'=Wk w5 m):=fun m=>qk m (H2.out _)
    have Q3:Hid (∀ m:KW w5,Calls Tryz.prog 76 #[.agg BL,.agg BF] (Wk w5 m) fun e w'=>e = .returned (.int .i64 n2)∧∃ m,w'=Wk w5 m):=fun m=>qk m (H3.out _)
    refine wp_region_keep (by kernel_rfl) (by kernel_rfl) ?_
    repeat (first
     | go_big_quiet_skip
     | (go_big_quiet_want;first
      | (refine quiet_load _ _ _ (.agg CB) rfl rfl (by rintro _ ⟨m,rfl⟩;exact HX1.out m) ?_;go_simp;go_big_quiet_on)|(refine quiet_load _ _ _ (.agg C) rfl rfl (by rintro _ ⟨m,rfl⟩;exact HX2.out m) ?_;go_simp;go_big_quiet_on)
      | (go_big_quiet_op;first|go_big_quiet_on|go_big_quiet_call (first
       | (go_at_call 78;with_reducible exact (Q1).out _)|(go_at_call 77;with_reducible exact (Q2).out _)|(go_at_call 76;with_reducible exact (Q3).out _)))))
    refine wpQuiet_nil ?_
    rintro w6 ⟨⟨_,hk_w6⟩,rfl⟩
    have Bgb6:=jX (hk_w6.heap Bgb.out (by simp))
    have Bgt6:=jX (hk_w6.heap Bgt5.out (by simp))
    have HB6:=jX (HB5.out.trans (Below.mono hk_w6.below0 HB5.out.size))
    clear hk_w6 HX1 HX2 Q1 Q2 Q3 H1 H2 H3
    go_upto_region 10 with (fail)
    refine wp_region_lit ?_
    refine' wpList_R (v:=_) (by rfl) (?hh) (fun K hK=>?kh)
    case hh=>(go_simp;try rfl)
    go_simp
    refine hK _ _ ?_
    clear hK K
    refine wpList_R (v:=.agg F1) (by rfl) (exec_load _ _ ⟨gt,0,none⟩ _ rfl rfl (HXf.out w6 Bgt6.out)) (fun K hK=>?_)
    go_simp
    refine hK _ _ ?_
    clear hK K
    refine' wpList_R (v:=_) (by rfl) (?hi) (fun K hK=>?ki)
    case hi=>(go_simp;try rfl)
    go_simp
    refine hK _ _ ?_
    clear hK K
    refine wpList_R (v:=.agg L1) (by rfl) (exec_load _ _ ⟨gb,9,none⟩ _ rfl rfl (HXt.out w6 gb Bgb6.out)) (fun K hK=>?_)
    go_simp
    refine hK _ _ ?_
    clear hK K
    refine wpList_plain (by rfl) (fun K hK=>?_)
    refine wp_enter 81 #[.agg F1,.agg L1] (by go_simp) ?_
    refine (H4.out _).mono ?_
    rintro e w7 ⟨rfl,hk7⟩
    refine ⟨_,rfl,?_⟩
    go_simp
    refine hK _ _ ?_
    clear hK K
    have HB7:=jX (HB6.out.trans (Below.mono hk7.below0 HB6.out.size))
    clear hk7 H4
    by_cases h1:n1<0
    ·have HE:=jX (N11.out (.inl (Hlt1.out.1 h1)))
     clear N11 N5 Nok
     go_wp2_with fail
     go_ret
     exact ⟨by rw [HE.out];rfl,HB7.out⟩
    by_cases h2:0<n2
    ·have HE:=jX (N11.out (.inr (Hgt1.out.1 h2)))
     clear N11 N5 Nok
     go_wp2_with fail
     go_ret
     exact ⟨by rw [HE.out];rfl,HB7.out⟩
    have hno:¬ (i.f.pt<b.l.pt∨i.f<b.l):=fun h=>h.elim (fun h=>h1 (Hlt1.out.2 h)) (fun h=>h2 (Hgt1.out.2 h))
    by_cases h3:n2=0
    ·have HE:=jX (N5.out hno (Heq1.out.1 h3))
     subst h3
     clear N11 N5 Nok hno
     go_wp2_with fail
     go_ret
     exact ⟨by rw [HE.out];rfl,HB7.out⟩
    have HE:=jX (Nok.out hno (fun h=>h3 (Heq1.out.2 h)))
    have h3b:(n2 == 0)=false:=by rw [beq_eq_false_iff_ne];exact h3
    clear N11 N5 Nok hno
    go_wp2_with fail
    go_roundw
    case rel=>exact ⟨k+1,some i,by omega,congrArg (Value.int .i64) (by omega),HE.out,HB7.out⟩
    case measure=>simp [intOf];omega
   have hne:(e0 != 0)=true:=by rw [bne_iff_ne];exact he
   have HE:=jX (HErr.out he)
   clear HZ HErr he
   go_wp2_with fail
   go_ret
   exact ⟨by rw [HE.out];rfl,HB3.out⟩
  obtain rfl:k=l.length:=by omega
  have HD:=jX (HA.out.done)
  go_wp2_with fail
  go_ret
  exact ⟨by rw [HD.out];rfl,HB.out⟩
end
end Go.Proofs.YtpgffjjpiafhpaaGreatDoor
