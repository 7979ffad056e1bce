/- Parts of a proof about this translation: Jd. -/
import Derived.Test.YtpgffjjpiafhpaaGreatDoorA31
import Derived.Test.YtpgffjjpiafhpaaGreatDoorA32
import Derived.Test.YtpgffjjpiafhpaaGreatDoorA30
import Derived.Test.YtpgffjjpiafhpaaGreatDoorA27
set_option linter.unusedVariables false
set_option linter.unusedSimpArgs false
set_option maxRecDepth 100000
set_option maxHeartbeats 8000000
namespace Go.Proofs.YtpgffjjpiafhpaaGreatDoor
open Go.RowKit
section
open Classical
theorem chkL_one (r:RawI):chkL none [r]=eI r:=by
 by_cases h:eI r=0
 ·obtain⟨i,rfl,hv⟩:=eI_zero h
  rw [h,chkL_first hv]
  rfl
 exact chkL_err h none []
theorem rir_one {w:World} {g q:Nat} {r:RawI} {c:Nat} (hat:RIAt w g q r) (hg:g<w.heap.size) (hc:1≤c):RIR w (.slice (some ⟨g,q,none⟩) 1 c) [r] :=
 .inr ⟨g,q,c,rfl,hc,hg,fun k v hk=>hat k v (by simpa using hk)⟩
theorem RIR.riq {w:World} {v:Value} {l:List RawI} (h:RIR w v l):RIQ w v l:=by
 obtain⟨a,c,h1,_⟩:=h.form
 exact ⟨a,c,h1,.inr h⟩
theorem slice_mid (g o n c k:Nat) (h1:k<n) (h2:n≤c) (u:World) (h9:n≤1000000):(Instr.sliceAt 22 (.slice (some ⟨g,o,none⟩) n c) (some (.int .i64 (k:Int))) (some (.int .i64 ((k:Int)+1))) none).run Tryz.prog u = .ok (.slice (some ⟨g,o+k*20,none⟩) 1 (c-k)) u:=by
 have e1:((k:Int)+1)=((k+1:Nat):Int):=by omega
 have e2:k+1-k=1:=by omega
 have e3:k+1≤c:=by omega
 have e4:¬ c=k:=by omega
 have e5:¬ c-k=0:=by omega
 have e6:¬ k+1<k:=by omega
 rw [e1]
 clear e1
 generalize k+1=j at *
 go_simp
theorem periodChecks_c (w:World) (v0 v1:Value) (m0:RIArg w v0) (m1:RIArg w v1):Calls Tryz.prog 3 #[v0,v1] w fun e w'=>e = .returned (.bool true)∧Below w.heap.size w w':=by
 obtain⟨l,hr,hl9,hls⟩:=m0
 obtain⟨m,hq,hm9,hms⟩:=m1
 have HR:=jX hr
 have HQ:=jX hq
 have HSz:=jX hls
 obtain⟨da,dc,rfl,_⟩:=hr.form
 obtain⟨ta,tc,rfl,_⟩:=hq.form
 clear hr hq hls hms
 go_enter Tryz.func3,Tryz.ntmps3
 go_upto_region 1 with (fail)
 have HK:=jX (Keep.refl [] w)
 by_cases h8:8<l.length
 ·have hd:(8:Int)<(l.length:Int):=by omega
  go_wp2_with fail
  refine (known_c _).mono ?_
  rintro e w1 ⟨rfl,hk⟩
  dsimp only
  have HK:=jX (HK.out.trans0 hk)
  clear hk
  go_wp2_with fail
  refine (known_c _).mono ?_
  rintro e w2 ⟨rfl,hk⟩
  dsimp only
  have HK:=jX (HK.out.trans0 hk)
  clear hk
  go_wp2_with fail
  go_ret
  exact ⟨rfl,HK.out.below0⟩
 have hd:¬ (8:Int)<(l.length:Int):=by omega
 by_cases h8':8<m.length
 ·have hd':(8:Int)<(m.length:Int):=by omega
  go_wp2_with fail
  refine (known_c _).mono ?_
  rintro e w1 ⟨rfl,hk⟩
  dsimp only
  have HK:=jX (HK.out.trans0 hk)
  clear hk
  go_wp2_with fail
  refine (known_c _).mono ?_
  rintro e w2 ⟨rfl,hk⟩
  dsimp only
  have HK:=jX (HK.out.trans0 hk)
  clear hk
  go_wp2_with fail
  go_ret
  exact ⟨rfl,HK.out.below0⟩
 have hd':¬ (8:Int)<(m.length:Int):=by omega
 go_wp2_with fail
 refine (known_c _).mono ?_
 rintro e w1 ⟨rfl,hk⟩
 dsimp only
 have HK:=jX (HK.out.trans0 hk)
 clear hk
 go_wp2_with fail
 go_loopw [5] (fun c wr=>∃ k:Nat,k≤l.length∧c = .int .i64 (k:Int)∧(∀ r∈l.take k,r.f.sum≤20∧r.t.sum≤20)∧Keep [] w wr) (fun c _=>l.length-(intOf c).toNat)
 case atStart=>exact ⟨0,Nat.zero_le _,rfl,by simp,HK.out⟩
 case round =>
  obtain⟨k,hk,rfl,hok,hb⟩:=hrel
  have HO:=jX hok
  have HB:=jX hb
  clear hok hb
  by_cases hlt:k<l.length
  ·obtain⟨g,o,rfl,hg,hat⟩:=RIR.elem (HR.out.later HB.out) k hlt
   have hsz:=HSz.out l[k] (List.getElem_mem hlt)
   have HNx:=jX (List.take_succ_eq_append_getElem hlt)
   generalize l[k]=r at *
   obtain⟨q,hq⟩:∃ q,o+k*20=q:=⟨_,rfl⟩
   rw [hq] at hat
   have HLd:=jX (fun (u:World) (hk:Keep [] wr u)=>And.intro (load_raw u g q r.f (hat.keepB (hk.block g hg (by simp))).frm) (load_raw u g (q+9) r.t (hat.keepB (hk.block g hg (by simp))).upto))
   have H1:=jX (short06_c r.f hsz.1)
   have H2:=jX (short06_c r.t hsz.2)
   have hkc:(k:Int)<(l.length:Int):=by omega
   have hk0:(0:Int)≤(k:Int):=by omega
   clear hat hsz
   obtain⟨x,hx⟩:∃ x,decide (r.f.sum≤20)=x:=⟨_,rfl⟩
   obtain⟨y,hy⟩:∃ y,decide (r.t.sum≤20)=y:=⟨_,rfl⟩
   rw [hx] at H1
   rw [hy] at H2
   have Hx:=jX hx
   have Hy:=jX hy
   clear hx hy
   obtain⟨fv,hfv⟩:∃ fv,r.f.v=fv:=⟨_,rfl⟩
   obtain⟨tv,htv⟩:∃ tv,r.t.v=tv:=⟨_,rfl⟩
   rw [hfv] at HLd H1
   rw [htv] at HLd H2
   clear hfv htv
   go_upto_region 6 with (fail)
   refine wp_region_lit ?_
   generalize hA:Act.mk _ _=A9
   iterate 4 (first|(refine gWE (by subst hA;rfl) ?_;subst hA;refine ⟨?_,?_,fun K hK=>?_⟩;rotate_left;(go_simp;try rfl);go_simp;generalize hA:Act.mk _ _=A9;refine hK _ _ ?_;clear hK K)|(refine gWS (by subst hA;rfl) (fun K hK=>?_);subst hA;go_simp;generalize hA:Act.mk _ _=A9;refine hK _ _ ?_;clear hK K))
   subst hA
   refine gWE (by rfl) ⟨fv,exec_load _ _ ⟨g,q,none⟩ _ rfl rfl (HLd.out wr (Keep.refl _ _)).1,fun K hK=>?_⟩
   go_simp
   refine hK _ _ ?_
   clear hK K
   refine gWC (by rfl) (fun K hK=>?_)
   refine wp_enter 16 #[fv] (by go_simp) ?_
   refine (H1.out _).mono ?_
   rintro e w2 ⟨rfl,hk2⟩
   refine ⟨_,rfl,?_⟩
   go_simp
   refine hK _ _ ?_
   clear hK K
   have HK2:=jX hk2
   clear hk2
   cases x with
   | false =>
    generalize hA:Act.mk _ _=A9
    iterate 10 (first|(refine gWE (by subst hA;rfl) ?_;subst hA;refine ⟨?_,?_,fun K hK=>?_⟩;rotate_left;(go_simp;try rfl);go_simp;generalize hA:Act.mk _ _=A9;refine hK _ _ ?_;clear hK K)|(refine gWS (by subst hA;rfl) (fun K hK=>?_);subst hA;go_simp;generalize hA:Act.mk _ _=A9;refine hK _ _ ?_;clear hK K))
    subst hA
    go_wp2_with fail
    go_ret
    exact ⟨rfl,(HB.out.trans0 HK2.out).below0⟩
   | true =>
    generalize hA:Act.mk _ _=A9
    iterate 6 (first|(refine gWE (by subst hA;rfl) ?_;subst hA;refine ⟨?_,?_,fun K hK=>?_⟩;rotate_left;(go_simp;try rfl);go_simp;generalize hA:Act.mk _ _=A9;refine hK _ _ ?_;clear hK K)|(refine gWS (by subst hA;rfl) (fun K hK=>?_);subst hA;go_simp;generalize hA:Act.mk _ _=A9;refine hK _ _ ?_;clear hK K))
    subst hA
    refine gWE (by rfl) ⟨tv,exec_load _ _ ⟨g,q+9,none⟩ _ rfl rfl (HLd.out w2 HK2.out).2,fun K hK=>?_⟩
    go_simp
    refine hK _ _ ?_
    clear hK K
    refine gWC (by rfl) (fun K hK=>?_)
    refine wp_enter 16 #[tv] (by go_simp) ?_
    refine (H2.out _).mono ?_
    rintro e w3 ⟨rfl,hk3⟩
    refine ⟨_,rfl,?_⟩
    go_simp
    refine hK _ _ ?_
    clear hK K
    have HK3:=jX (HB.out.trans0 (HK2.out.trans0 hk3))
    clear hk3
    cases y with
    | false =>
     generalize hA:Act.mk _ _=A9
     iterate 2 (first|(refine gWE (by subst hA;rfl) ?_;subst hA;refine ⟨?_,?_,fun K hK=>?_⟩;rotate_left;(go_simp;try rfl);go_simp;generalize hA:Act.mk _ _=A9;refine hK _ _ ?_;clear hK K)|(refine gWS (by subst hA;rfl) (fun K hK=>?_);subst hA;go_simp;generalize hA:Act.mk _ _=A9;refine hK _ _ ?_;clear hK K))
     subst hA
     go_wp2_with fail
     go_ret
     exact ⟨rfl,HK3.out.below0⟩
    | true =>
     generalize hA:Act.mk _ _=A9
     iterate 2 (first|(refine gWE (by subst hA;rfl) ?_;subst hA;refine ⟨?_,?_,fun K hK=>?_⟩;rotate_left;(go_simp;try rfl);go_simp;generalize hA:Act.mk _ _=A9;refine hK _ _ ?_;clear hK K)|(refine gWS (by subst hA;rfl) (fun K hK=>?_);subst hA;go_simp;generalize hA:Act.mk _ _=A9;refine hK _ _ ?_;clear hK K))
     subst hA
     have HE:Hid (∀ x∈l.take (k+1),x.f.sum≤20∧x.t.sum≤20):=jX (by
      intro x hx
      rw [HNx.out] at hx
      rcases List.mem_append.1 hx with hx|hx
      ·exact HO.out x hx
      obtain rfl:=List.mem_singleton.1 hx
      exact ⟨of_decide_eq_true Hx.out,of_decide_eq_true Hy.out⟩)
     clear HNx HO
     go_wp2_with fail
     go_roundw
     case rel=>exact ⟨k+1,by omega,congrArg (Value.int .i64) (by omega),HE.out,HK3.out⟩
     case measure=>simp [intOf];omega
  obtain rfl:k=l.length:=by omega
  have HS:Hid (∀ r∈l,r.sz 100000):=jX (by
   intro r hr
   have h:=HO.out r (by rw [List.take_length];exact hr)
   exact ⟨RawR.sum_sz (Nat.le_trans h.1 (by decide)),RawR.sum_sz (Nat.le_trans h.2 (by decide))⟩)
  clear HO HSz
  have HBB:=jX HB.out.below0
  clear HB
  rename World=>wl
  go_wp2_with fail
  go_loopw [6] (fun c wr=>∃ k:Nat,k≤l.length∧c = .int .i64 (k:Int)∧Below w.heap.size w wr) (fun c _=>l.length-(intOf c).toNat)
  case atStart=>exact ⟨0,Nat.zero_le _,rfl,HBB.out⟩
  case round =>
   obtain⟨k,hk,rfl,hb⟩:=hrel
   have HB:=jX hb
   clear hb HBB
   by_cases hlt:k<l.length
   ·obtain⟨g,o,rfl,hg,hat⟩:=RIR.elem (HR.out.laterB HB.out) k hlt
    have hsz:=HS.out l[k] (List.getElem_mem hlt)
    generalize l[k]=r at *
    obtain⟨q,hq⟩:∃ q,o+k*20=q:=⟨_,rfl⟩
    rw [hq] at hat
    have H1:=jX (pci_p r hsz)
    have H2:=jX (fun (u:World) (hk:Below wr.heap.size wr u)=>check06_c [r] (by intro x hx;rw [List.mem_singleton.1 hx];exact hsz) u (.slice (some ⟨g,q,none⟩) 1 (dc-k)) (RIR.riq (rir_one (hat.keepB (hk.block g hg)) (Nat.lt_of_lt_of_le hg hk.size) (by have:=HR.out.form;obtain⟨_,_,e,h⟩:=this;injection e with _ _ e;omega))) (by simp))
    rw [chkL_one] at H2
    have HL:=jX (fun (u:World) (hk:Below wr.heap.size wr u)=>load_rawi u g q r (hat.keepB (hk.block g hg)))
    have HSl:Hid (∀ u,(Instr.sliceAt 22 (.slice (some ⟨g,o,none⟩) l.length dc) (some (.int .i64 (k:Int))) (some (.int .i64 ((k:Int)+1))) none).run Tryz.prog u = .ok (.slice (some ⟨g,q,none⟩) 1 (dc-k)) u):=jX (fun u=>by
     rw [← hq]
     exact slice_mid g o l.length dc k hlt (by have:=HR.out.form;obtain⟨_,_,e,h⟩:=this;injection e with _ _ e;try omega) u (by omega))
    have hrv:r.v = .agg r.C:=rfl
    rw [hrv] at H1 HL
    clear hrv hat hsz
    generalize eI r=e0 at *
    generalize r.C=C at *
    have hkc:(k:Int)<(l.length:Int):=by omega
    have hk0:(0:Int)≤(k:Int):=by omega
    have hw1:IntKind.i64.wrap ((k:Int)+1)=(k:Int)+1:=IntWalk.i64_in _ (by omega)
    go_upto_region 11 with (fail)
    refine wp_region_heldT (S:=fun u=>Below wr.heap.size wr u) 11 (by kernel_rfl) (by kernel_rfl) (fun _ _ d _ _ h=>by cases d<;>exact h) ?_
    have hS0:=(Keep.drew [] wr).below0
    generalize World.drew wr=u at *
    refine' jV (v:=_) 0 hS0 (fun w hw=>?ha0) (fun K hK=>?ka0)
    case ha0=>(go_simp;try rfl)
    go_simp
    refine hK _ ?_
    clear hK K
    refine' jV (v:=_) 1 hS0 (fun w hw=>?ha1) (fun K hK=>?ka1)
    case ha1=>(go_simp;try rfl)
    go_simp
    refine hK _ ?_
    clear hK K
    refine' jV (v:=_) 2 hS0 (fun w hw=>?ha2) (fun K hK=>?ka2)
    case ha2=>(go_simp;try rfl)
    go_simp
    refine hK _ ?_
    clear hK K
    refine jV (v:=.agg C) 3 hS0 (fun w hw=>exec_load _ _ ⟨g,q,none⟩ _ rfl rfl (HL.out w hw)) (fun K hK=>?_)
    go_simp
    refine hK _ ?_
    clear hK K
    refine' jV (v:=_) 5 hS0 (fun w hw=>?ha5) (fun K hK=>?ka5)
    case ha5=>(go_simp;try rfl)
    go_simp
    refine hK _ ?_
    clear hK K
    refine' jV (v:=_) 6 hS0 (fun w hw=>?ha6) (fun K hK=>?ka6)
    case ha6=>(go_simp;try rfl)
    go_simp
    refine hK _ ?_
    clear hK K
    refine' jV (v:=_) 7 hS0 (fun w hw=>?ha7) (fun K hK=>?ka7)
    case ha7=>(go_simp;try rfl)
    go_simp
    refine hK _ ?_
    clear hK K
    refine' jV (v:=_) 8 hS0 (fun w hw=>?ha8) (fun K hK=>?ka8)
    case ha8=>(go_simp;try rfl)
    go_simp
    refine hK _ ?_
    clear hK K
    refine jV (v:=.slice (some ⟨g,q,none⟩) 1 (dc-k)) 9 hS0 (fun w hw=>exec_slice _ _ _ _ _ _ _ _ _ _ rfl rfl rfl rfl rfl (HSl.out w)) (fun K hK=>?_)
    go_simp
    refine hK _ ?_
    clear hK K
    refine jO 4 (fun K hK=>?_)
    refine wp_enter 17 #[.agg C] (by go_simp) ?_
    refine (H1.out _).mono ?_
    rintro e w4 ⟨rfl,hb⟩
    have hS0:=hS0.trans (Below.mono hb hS0.size)
    clear hb
    refine ⟨_,rfl,?_⟩
    go_simp
    refine hK _ _ hS0 ?_
    clear hK K
    refine jO 10 (fun K hK=>?_)
    refine wp_enter 18 #[.slice (some ⟨g,q,none⟩) 1 (dc-k)] (by go_simp) ?_
    refine (H2.out w4 hS0).mono ?_
    rintro e w5 ⟨rfl,hk⟩
    have hS0:=hS0.trans (Below.mono hk.below0 hS0.size)
    clear hk
    refine ⟨_,rfl,?_⟩
    go_simp
    refine hK _ _ hS0 ?_
    clear hK K
    refine ⟨by kernel_rfl,?_⟩
    simp only [List.drop_succ_cons,List.drop_zero]
    have HB5:=jX (HB.out.trans (Below.mono hS0 HB.out.size))
    clear hS0 H1 H2 HL HSl
    go_wp2_with fail
    go_roundw
    case rel=>exact ⟨k+1,by omega,congrArg (Value.int .i64) (by omega),HB5.out⟩
    case measure=>simp [intOf];omega
   obtain rfl:k=l.length:=by omega
   have H1:=jX (fun (u:World) (hk:Below w.heap.size w u)=>pcheck_p l HS.out u _ (RIR.riq (HR.out.laterB hk)) (by omega))
   have H2:=jX (fun (u:World) (hk:Below w.heap.size w u)=>check06_c l HS.out u _ (RIR.riq (HR.out.laterB hk)) (by omega))
   have H3:=jX (fun (u:World) (hk:Below w.heap.size w u)=>pequalR_c l m u _ _ (HR.out.laterB hk) (HQ.out.laterB hk) (by omega) (by omega))
   have H4:=jX (fun (u:World) (hk:Below w.heap.size w u)=>equalR_c l m u _ _ (HR.out.laterB hk) (HQ.out.laterB hk) (by omega) (by omega))
   generalize chkL none l=e0 at *
   generalize decide (l=m)=b0 at *
   go_wp2_with fail
   refine (H1.out _ HB.out).mono ?_
   rintro e w4 ⟨rfl,hb⟩
   dsimp only
   have HB:=jX (HB.out.trans (Below.mono hb HB.out.size))
   clear hb
   go_wp2_with fail
   refine (H2.out _ HB.out).mono ?_
   rintro e w5 ⟨rfl,hk⟩
   dsimp only
   have HB:=jX (HB.out.trans (Below.mono hk.below0 HB.out.size))
   clear hk
   go_wp2_with fail
   refine (H3.out _ HB.out).mono ?_
   rintro e w6 ⟨rfl,hk⟩
   dsimp only
   have HB:=jX (HB.out.trans (Below.mono hk.below0 HB.out.size))
   clear hk
   go_wp2_with fail
   refine (H4.out _ HB.out).mono ?_
   rintro e w7 ⟨rfl,hk⟩
   dsimp only
   have HB:=jX (HB.out.trans (Below.mono hk.below0 HB.out.size))
   clear hk
   go_wp2_with fail
   go_ret
   exact ⟨rfl,HB.out⟩
end
end Go.Proofs.YtpgffjjpiafhpaaGreatDoor
