/- Parts of a proof about this translation: Kz, La, Vl, Lb. -/
import Derived.Test.YtejegogbhpmgfaaGreatDoorC34
import Derived.Test.YtejegogbhpmgfaaGreatDoorC26
import Derived.Test.YtejegogbhpmgfaaGreatDoorC25
set_option linter.unusedVariables false
set_option linter.unusedSimpArgs false
set_option linter.unusedSectionVars false
set_option maxRecDepth 100000
set_option maxHeartbeats 8000000
namespace Go.Proofs.YtejegogbhpmgfaaGreatDoor
open Go.RowKit
section
open Classical
section
variable {P:Program} {ops:Array Oper} {Q:Exit→Act→World→Prop}
theorem wantedC {rest:List Oper} {o:Oper} {a:Act} {w:World} (hw:Region.wanted o (yielded ops a.tmps)=true)
  (h:∀ K:Act→World→Prop,(∀ a w,wpList P ops Q rest a w→K a w)→o.wp P a w K Q):wpList P ops Q (o :: rest) a w:=by
 unfold wpList
 rw [if_pos hw]
 exact .inl (h _ fun _ _ h=>h)
theorem wantedR {rest:List Oper} {o:Oper} {a:Act} {w:World} {v:Value} (hw:Region.wanted o (yielded ops a.tmps)=true) (h:(execOp a.eval o).run P w = .ok (.value v) w)
  (hk:∀ K:Act→World→Prop,(∀ a w,wpList P ops Q rest a w→K a w)→K (a.put o.dst v) w):wpList P ops Q (o :: rest) a w:=wantedC hw fun K hK=>wp_op v w h (hk K hK)
end
theorem pci_p (r:RawI) (hs:r.sz 100000) (w:World):Calls Tryz.prog 96 #[r.v] w fun e w'=>e = .returned (.int .i64 (eI r))∧Below w.heap.size w w':=by
 have H1:=jX (rchk_p r.f ⟨Nat.le_trans hs.1.1 (by decide),Nat.le_trans hs.1.2.1 (by decide),Nat.le_trans hs.1.2.2.1 (by decide),Nat.le_trans hs.1.2.2.2 (by decide)⟩)
 have H2:=jX (rchk_p r.t ⟨Nat.le_trans hs.2.1 (by decide),Nat.le_trans hs.2.2.1 (by decide),Nat.le_trans hs.2.2.2.1 (by decide),Nat.le_trans hs.2.2.2.2 (by decide)⟩)
 have HLd:=jX (fun (u:World) (g:Nat) (h:u.heap[g]? = some (.cells r.C 49))=>And.intro (load_raw u g 0 r.f (rAt_box h).frm) (load_raw u g (0+9) r.t (rAt_box h).upto))
 have hv:r.v = .agg r.C:=rfl
 by_cases hf:r.f.isK
 ·rw [decide_eq_true hf,show errF true = .int .i64 0 from rfl] at H1
  by_cases ht:r.t.isK
  ·rw [decide_eq_true ht,show errF true = .int .i64 0 from rfl] at H2
   obtain⟨i,hi⟩:=RawI.toI hf ht hs
   have he:eI r=if i.f<i.l then 0 else 10:=by rw [hi,eI_of]
   have HLi:=jX (fun (u:World) (g:Nat) (h:u.heap[g]? = some (.cells r.C 49))=>load_rawi u g 0 r (rAt_box h))
   have H3:=jX (first_c i)
   have H4:=jX (last_c i)
   have H5:=jX (bcmp_c i.f i.l)
   have hiv:iv i = .agg r.C:=by rw [hi];rfl
   have hcm:(0≤cmpB i.f i.l) ↔ ¬ i.f<i.l:=by
    have h0:=cmpB_lt i.f i.l
    constructor
    ·intro h h2
     have:=h0.2 h2
     omega
    intro h
    exact Int.not_lt.1 fun h2=>h (h0.1 h2)
   rw [he,hv]
   rw [hiv] at H3 H4
   rw [hv] at HLi
   unfold bv at H3 H4 H5
   generalize (bcells i.f).toArray=BF at *
   generalize (bcells i.l).toArray=BL at *
   generalize cmpB i.f i.l=n at *
   clear hf ht hs hi he hiv hv
   generalize r.f.v=fv at *
   generalize r.t.v=tv at *
   generalize r.C=C at *
   by_cases hlt:i.f<i.l
   ·have hn:¬ 0≤n:=fun h=>(hcm.1 h) hlt
    rw [if_pos hlt]
    clear hcm hlt
    go_enter Tryz.func96,Tryz.ntmps96
    go_upto_region 1 with (fail)
    obtain⟨W,ga,hW,ega,Bga,hga,hgW,HkW⟩:=al1h w (.cells C 49)
    rw [← hW]
    try rw [ega]
    clear hW ega
    have HF:=jX ((HLd.out W ga Bga.out).1)
    have HT:=jX ((HLd.out W ga Bga.out).2)
    refine wp_region_lit ?_
    refine' wpList_R (v:=_) (by rfl) (?ha1) (fun K hK=>?ka1)
    case ha1=>(go_simp;try rfl)
    go_simp
    refine hK _ _ ?_
    clear hK K
    refine wpList_R (v:=fv) (by rfl) (exec_load _ _ ⟨ga,0,none⟩ _ rfl rfl HF.out) (fun K hK=>?_)
    go_simp
    refine hK _ _ ?_
    clear hK K
    refine wpList_plain (by rfl) (fun K hK=>?_)
    refine wp_enter 133 #[fv] (by go_simp) ?_
    refine (H1.out _).mono ?_
    rintro e w1 ⟨rfl,hb1⟩
    refine ⟨_,rfl,?_⟩
    go_simp
    refine hK _ _ ?_
    clear hK K
    have HB1:=jX (HkW.out.below0.trans (Below.mono hb1 HkW.out.size))
    have B2ga:=jX ((hb1.block ga (lt_of_heap Bga.out)).trans Bga.out)
    clear Bga
    have Bga:=B2ga
    clear B2ga
    have HT:=jX ((HLd.out w1 ga Bga.out).2)
    clear hb1 HF
    refine' wpList_R (v:=_) (by rfl) (?hb1) (fun K hK=>?kb1)
    case hb1=>(go_simp;try rfl)
    go_simp
    refine hK _ _ ?_
    clear hK K
    refine' wpList_R (v:=_) (by rfl) (?hc1) (fun K hK=>?kc1)
    case hc1=>(go_simp;try rfl)
    go_simp
    refine hK _ _ ?_
    clear hK K
    refine' wantedR (v:=_) (by rfl) (?hd1) (fun K hK=>?kd1)
    case hd1=>(go_simp;try rfl)
    go_simp
    refine hK _ _ ?_
    clear hK K
    refine wantedR (v:=tv) (by rfl) (exec_load _ _ ⟨ga,9,none⟩ _ rfl rfl HT.out) (fun K hK=>?_)
    go_simp
    refine hK _ _ ?_
    clear hK K
    refine wantedC (by rfl) (fun K hK=>?_)
    refine wp_enter 133 #[tv] (by go_simp) ?_
    refine (H2.out _).mono ?_
    rintro e w2 ⟨rfl,hb2⟩
    refine ⟨_,rfl,?_⟩
    go_simp
    refine hK _ _ ?_
    clear hK K
    have HB2:=jX (HB1.out.trans (Below.mono hb2 HB1.out.size))
    have B2ga:=jX ((hb2.block ga (lt_of_heap Bga.out)).trans Bga.out)
    clear Bga
    have Bga:=B2ga
    clear B2ga
    clear hb2 HT
    go_wp2_with fail
    have HX:Hid (∀ m:KW w2,(loadVar 49 ⟨ga,0,none⟩).run Tryz.prog (Wk w2 m) = .ok (.agg C) (Wk w2 m)):=fun m=>HLi.out _ ga (m.k.heap Bga.out (by simp))
    have Q3:Hid (∀ m:KW w2,Calls Tryz.prog 106 #[.agg C] (Wk w2 m) fun e w'=>e = .returned (.agg BF)∧∃ m,w'=Wk w2 m):=fun m=>qk m (H3.out _)
    have Q4:Hid (∀ m:KW w2,Calls Tryz.prog 107 #[.agg C] (Wk w2 m) fun e w'=>e = .returned (.agg BL)∧∃ m,w'=Wk w2 m):=fun m=>qk m (H4.out _)
    have Q5:Hid (∀ m:KW w2,Calls Tryz.prog 105 #[.agg BF,.agg BL] (Wk w2 m) fun e w'=>e = .returned (.int .i64 n)∧∃ m,w'=Wk w2 m):=fun m=>qk m (H5.out _)
    refine wp_region_keep (by kernel_rfl) (by kernel_rfl) ?_
    repeat (first
     | go_big_quiet_skip
     | (go_big_quiet_want;first
      | (refine quiet_load _ _ _ (.agg C) rfl rfl (by rintro _ ⟨m,rfl⟩;exact HX.out m) ?_;go_simp;go_big_quiet_on)
      | (go_big_quiet_op;first|go_big_quiet_on|go_big_quiet_call (first
       | (go_at_call 106;with_reducible exact (Q3).out _)|(go_at_call 107;with_reducible exact (Q4).out _)|(go_at_call 105;with_reducible exact (Q5).out _)))))
    refine wpQuiet_nil ?_
    rintro w3 ⟨⟨_,hk_w3⟩,rfl⟩
    have HB3:=jX (HB2.out.trans (Below.mono hk_w3.below0 HB2.out.size))
    clear hk_w3
    go_wp2_with fail
    go_ret
    exact ⟨rfl,HB3.out⟩
   have hn:0≤n:=hcm.2 hlt
   rw [if_neg hlt]
   clear hcm hlt
   go_enter Tryz.func96,Tryz.ntmps96
   go_upto_region 1 with (fail)
   obtain⟨W,ga,hW,ega,Bga,hga,hgW,HkW⟩:=al1h w (.cells C 49)
   rw [← hW]
   try rw [ega]
   clear hW ega
   have HF:=jX ((HLd.out W ga Bga.out).1)
   have HT:=jX ((HLd.out W ga Bga.out).2)
   refine wp_region_lit ?_
   refine' wpList_R (v:=_) (by rfl) (?ha4) (fun K hK=>?ka4)
   case ha4=>(go_simp;try rfl)
   go_simp
   refine hK _ _ ?_
   clear hK K
   refine wpList_R (v:=fv) (by rfl) (exec_load _ _ ⟨ga,0,none⟩ _ rfl rfl HF.out) (fun K hK=>?_)
   go_simp
   refine hK _ _ ?_
   clear hK K
   refine wpList_plain (by rfl) (fun K hK=>?_)
   refine wp_enter 133 #[fv] (by go_simp) ?_
   refine (H1.out _).mono ?_
   rintro e w1 ⟨rfl,hb1⟩
   refine ⟨_,rfl,?_⟩
   go_simp
   refine hK _ _ ?_
   clear hK K
   have HB1:=jX (HkW.out.below0.trans (Below.mono hb1 HkW.out.size))
   have B2ga:=jX ((hb1.block ga (lt_of_heap Bga.out)).trans Bga.out)
   clear Bga
   have Bga:=B2ga
   clear B2ga
   have HT:=jX ((HLd.out w1 ga Bga.out).2)
   clear hb1 HF
   refine' wpList_R (v:=_) (by rfl) (?hb4) (fun K hK=>?kb4)
   case hb4=>(go_simp;try rfl)
   go_simp
   refine hK _ _ ?_
   clear hK K
   refine' wpList_R (v:=_) (by rfl) (?hc4) (fun K hK=>?kc4)
   case hc4=>(go_simp;try rfl)
   go_simp
   refine hK _ _ ?_
   clear hK K
   refine' wantedR (v:=_) (by rfl) (?hd4) (fun K hK=>?kd4)
   case hd4=>(go_simp;try rfl)
   go_simp
   refine hK _ _ ?_
   clear hK K
   refine wantedR (v:=tv) (by rfl) (exec_load _ _ ⟨ga,9,none⟩ _ rfl rfl HT.out) (fun K hK=>?_)
   go_simp
   refine hK _ _ ?_
   clear hK K
   refine wantedC (by rfl) (fun K hK=>?_)
   refine wp_enter 133 #[tv] (by go_simp) ?_
   refine (H2.out _).mono ?_
   rintro e w2 ⟨rfl,hb2⟩
   refine ⟨_,rfl,?_⟩
   go_simp
   refine hK _ _ ?_
   clear hK K
   have HB2:=jX (HB1.out.trans (Below.mono hb2 HB1.out.size))
   have B2ga:=jX ((hb2.block ga (lt_of_heap Bga.out)).trans Bga.out)
   clear Bga
   have Bga:=B2ga
   clear B2ga
   clear hb2 HT
   go_wp2_with fail
   have HX:Hid (∀ m:KW w2,(loadVar 49 ⟨ga,0,none⟩).run Tryz.prog (Wk w2 m) = .ok (.agg C) (Wk w2 m)):=fun m=>HLi.out _ ga (m.k.heap Bga.out (by simp))
   have Q3:Hid (∀ m:KW w2,Calls Tryz.prog 106 #[.agg C] (Wk w2 m) fun e w'=>e = .returned (.agg BF)∧∃ m,w'=Wk w2 m):=fun m=>qk m (H3.out _)
   have Q4:Hid (∀ m:KW w2,Calls Tryz.prog 107 #[.agg C] (Wk w2 m) fun e w'=>e = .returned (.agg BL)∧∃ m,w'=Wk w2 m):=fun m=>qk m (H4.out _)
   have Q5:Hid (∀ m:KW w2,Calls Tryz.prog 105 #[.agg BF,.agg BL] (Wk w2 m) fun e w'=>e = .returned (.int .i64 n)∧∃ m,w'=Wk w2 m):=fun m=>qk m (H5.out _)
   refine wp_region_keep (by kernel_rfl) (by kernel_rfl) ?_
   repeat (first
    | go_big_quiet_skip
    | (go_big_quiet_want;first
     | (refine quiet_load _ _ _ (.agg C) rfl rfl (by rintro _ ⟨m,rfl⟩;exact HX.out m) ?_;go_simp;go_big_quiet_on)
     | (go_big_quiet_op;first|go_big_quiet_on|go_big_quiet_call (first
      | (go_at_call 106;with_reducible exact (Q3).out _)|(go_at_call 107;with_reducible exact (Q4).out _)|(go_at_call 105;with_reducible exact (Q5).out _)))))
   refine wpQuiet_nil ?_
   rintro w3 ⟨⟨_,hk_w3⟩,rfl⟩
   have HB3:=jX (HB2.out.trans (Below.mono hk_w3.below0 HB2.out.size))
   clear hk_w3
   go_wp2_with fail
   go_ret
   exact ⟨rfl,HB3.out⟩
  rw [decide_eq_false ht,show errF false = .int .i64 5 from rfl] at H2
  have he:eI r=5:=eI_no (fun h=>ht h.2)
  rw [he,hv]
  clear hf ht hs he hv
  generalize r.f.v=fv at *
  generalize r.t.v=tv at *
  generalize r.C=C at *
  go_enter Tryz.func96,Tryz.ntmps96
  go_upto_region 1 with (fail)
  obtain⟨W,ga,hW,ega,Bga,hga,hgW,HkW⟩:=al1h w (.cells C 49)
  rw [← hW]
  try rw [ega]
  clear hW ega
  have HF:=jX ((HLd.out W ga Bga.out).1)
  have HT:=jX ((HLd.out W ga Bga.out).2)
  refine wp_region_lit ?_
  refine' wpList_R (v:=_) (by rfl) (?ha2) (fun K hK=>?ka2)
  case ha2=>(go_simp;try rfl)
  go_simp
  refine hK _ _ ?_
  clear hK K
  refine wpList_R (v:=fv) (by rfl) (exec_load _ _ ⟨ga,0,none⟩ _ rfl rfl HF.out) (fun K hK=>?_)
  go_simp
  refine hK _ _ ?_
  clear hK K
  refine wpList_plain (by rfl) (fun K hK=>?_)
  refine wp_enter 133 #[fv] (by go_simp) ?_
  refine (H1.out _).mono ?_
  rintro e w1 ⟨rfl,hb1⟩
  refine ⟨_,rfl,?_⟩
  go_simp
  refine hK _ _ ?_
  clear hK K
  have HB1:=jX (HkW.out.below0.trans (Below.mono hb1 HkW.out.size))
  have B2ga:=jX ((hb1.block ga (lt_of_heap Bga.out)).trans Bga.out)
  clear Bga
  have Bga:=B2ga
  clear B2ga
  have HT:=jX ((HLd.out w1 ga Bga.out).2)
  clear hb1 HF
  refine' wpList_R (v:=_) (by rfl) (?hb2) (fun K hK=>?kb2)
  case hb2=>(go_simp;try rfl)
  go_simp
  refine hK _ _ ?_
  clear hK K
  refine' wpList_R (v:=_) (by rfl) (?hc2) (fun K hK=>?kc2)
  case hc2=>(go_simp;try rfl)
  go_simp
  refine hK _ _ ?_
  clear hK K
  refine' wantedR (v:=_) (by rfl) (?hd2) (fun K hK=>?kd2)
  case hd2=>(go_simp;try rfl)
  go_simp
  refine hK _ _ ?_
  clear hK K
  refine wantedR (v:=tv) (by rfl) (exec_load _ _ ⟨ga,9,none⟩ _ rfl rfl HT.out) (fun K hK=>?_)
  go_simp
  refine hK _ _ ?_
  clear hK K
  refine wantedC (by rfl) (fun K hK=>?_)
  refine wp_enter 133 #[tv] (by go_simp) ?_
  refine (H2.out _).mono ?_
  rintro e w2 ⟨rfl,hb2⟩
  refine ⟨_,rfl,?_⟩
  go_simp
  refine hK _ _ ?_
  clear hK K
  have HB2:=jX (HB1.out.trans (Below.mono hb2 HB1.out.size))
  have B2ga:=jX ((hb2.block ga (lt_of_heap Bga.out)).trans Bga.out)
  clear Bga
  have Bga:=B2ga
  clear B2ga
  clear hb2 HT
  go_wp2_with fail
  go_ret
  exact ⟨rfl,HB2.out⟩
 rw [decide_eq_false hf,show errF false = .int .i64 5 from rfl] at H1
 have he:eI r=5:=eI_no (fun h=>hf h.1)
 rw [he,hv]
 clear hf hs he hv H2
 generalize r.f.v=fv at *
 generalize r.t.v=tv at *
 generalize r.C=C at *
 go_enter Tryz.func96,Tryz.ntmps96
 go_upto_region 1 with (fail)
 obtain⟨W,ga,hW,ega,Bga,hga,hgW,HkW⟩:=al1h w (.cells C 49)
 rw [← hW]
 try rw [ega]
 clear hW ega
 have HF:=jX ((HLd.out W ga Bga.out).1)
 have HT:=jX ((HLd.out W ga Bga.out).2)
 refine wp_region_lit ?_
 refine' wpList_R (v:=_) (by rfl) (?ha3) (fun K hK=>?ka3)
 case ha3=>(go_simp;try rfl)
 go_simp
 refine hK _ _ ?_
 clear hK K
 refine wpList_R (v:=fv) (by rfl) (exec_load _ _ ⟨ga,0,none⟩ _ rfl rfl HF.out) (fun K hK=>?_)
 go_simp
 refine hK _ _ ?_
 clear hK K
 refine wpList_plain (by rfl) (fun K hK=>?_)
 refine wp_enter 133 #[fv] (by go_simp) ?_
 refine (H1.out _).mono ?_
 rintro e w1 ⟨rfl,hb1⟩
 refine ⟨_,rfl,?_⟩
 go_simp
 refine hK _ _ ?_
 clear hK K
 have HB1:=jX (HkW.out.below0.trans (Below.mono hb1 HkW.out.size))
 have B2ga:=jX ((hb1.block ga (lt_of_heap Bga.out)).trans Bga.out)
 clear Bga
 have Bga:=B2ga
 clear B2ga
 have HT:=jX ((HLd.out w1 ga Bga.out).2)
 clear hb1 HF
 go_wp2_with fail
 go_ret
 exact ⟨rfl,HB1.out⟩
end
section
open Classical
noncomputable def chkL:Option (Iv K)→List RawI→Int
 | _,[]=>0
 | p, r :: l => if h : ∃ i : Iv K, r = RawI.of i then
   (if h.choose.f<h.choose.l then
    (match p with
    | none=>chkL (some h.choose) l
    | some b=>if h.choose.f.pt<b.l.pt∨h.choose.f<b.l then 11 else if b.l=h.choose.f then 5 else chkL (some h.choose) l)
   else 10)
  else 5
theorem chkL_err {r:RawI} (h:eI r≠0) (p:Option (Iv K)) (l:List RawI):chkL p (r :: l)=eI r:=by
 unfold chkL eI at *
 by_cases hx:∃ i:Iv K,r=RawI.of i
 ·rw [dif_pos hx] at h ⊢
  rw [dif_pos hx]
  by_cases hl:hx.choose.f<hx.choose.l
  ·rw [if_pos hl] at h
   exact absurd rfl h
  rw [if_neg hl,if_neg hl]
 rw [dif_neg hx,dif_neg hx]
theorem eI_zero {r:RawI} (h:eI r=0):∃ i:Iv K,r=RawI.of i∧i.f<i.l:=by
 unfold eI at h
 by_cases hx:∃ i:Iv K,r=RawI.of i
 ·rw [dif_pos hx] at h
  by_cases hl:hx.choose.f<hx.choose.l
  ·exact ⟨hx.choose,hx.choose_spec,hl⟩
  rw [if_neg hl] at h
  exact absurd h (by decide)
 rw [dif_neg hx] at h
 exact absurd h (by decide)
theorem chkL_first {i:Iv K} (h:i.f<i.l) (l:List RawI):chkL none (RawI.of i :: l)=chkL (some i) l:=by
 have hx:∃ j:Iv K,RawI.of i=RawI.of j:=⟨i,rfl⟩
 have he:hx.choose=i:=(RawI.of_inj hx.choose_spec).symm
 rw [chkL,dif_pos hx]
 simp only [he]
 rw [if_pos h]
theorem chkL_next {i b:Iv K} (h:i.f<i.l) (l:List RawI):chkL (some b) (RawI.of i :: l)=if i.f.pt<b.l.pt∨i.f<b.l then 11 else if b.l=i.f then 5 else chkL (some i) l:=by
 have hx:∃ j:Iv K,RawI.of i=RawI.of j:=⟨i,rfl⟩
 have he:hx.choose=i:=(RawI.of_inj hx.choose_spec).symm
 rw [chkL,dif_pos hx]
 simp only [he]
 rw [if_pos h]
abbrev RIR:=RowE (fun r:RawI=>r.cells)
theorem rawi_len (r:RawI):r.cells.length=20:=rfl
theorem RIR.elem {w:World} {a:Option Addr} {n c:Nat} {l:List RawI} (h:RIR w (.slice a n c) l) (i:Nat) (hi:i<l.length):∃ g o,a=some ⟨g,o,none⟩∧g<w.heap.size∧RIAt w g (o+i*20) l[i]:=RowE.elem rawi_len h i hi
def RIQ (w:World) (sv:Value) (l:List RawI):Prop:=∃ a c,sv = .slice a l.length c∧(l=[]∨RIR w sv l)
theorem RIQ.elem {w:World} {a:Option Addr} {n c:Nat} {l:List RawI} (h:RIQ w (.slice a n c) l) (i:Nat) (hi:i<l.length):∃ g o,a=some ⟨g,o,none⟩∧g<w.heap.size∧RIAt w g (o+i*20) l[i]:=by
 obtain⟨_,_,_,h⟩:=h
 rcases h with rfl|h
 ·exact absurd hi (Nat.not_lt_zero _)
 exact h.elem i hi
theorem RowE.laterB {α:Type} {enc:α→List Value} {w w':World} {sv:Value} {l:List α} (h:RowE enc w sv l) (hb:Below w.heap.size w w'):RowE enc w' sv l:=by
 rcases h with h|⟨g,o,c,rfl,hc,hg,hx⟩
 ·exact .inl h
 refine .inr ⟨g,o,c,rfl,hc,Nat.lt_of_lt_of_le hg hb.size,fun i v hv=>?_⟩
 rw [World.cell?_of_block (hb.block g hg)]
 exact hx i v hv
theorem RIQ.laterB {w w':World} {sv:Value} {l:List RawI} (h:RIQ w sv l) (hb:Below w.heap.size w w'):RIQ w' sv l:=by
 obtain⟨a,c,h1,h2⟩:=h
 exact ⟨a,c,h1,h2.imp id (fun h=>h.laterB hb)⟩
theorem RIQ.later {w w':World} {sv:Value} {l:List RawI} (h:RIQ w sv l) (hk:Keep [] w w'):RIQ w' sv l:=h.laterB hk.below0
theorem RIAt.keepB {w w':World} {b o:Nat} {r:RawI} (h:RIAt w b o r) (hb:w'.heap[b]? = w.heap[b]?):RIAt w' b o r:=fun k v hk=>by
 rw [World.cell?_of_block hb];exact h k v hk
def ChkAt (l:List RawI) (k:Nat) (p:Option (Iv K)):Prop:=chkL none l=chkL p (l.drop k)∧(k=0→p=none)∧(∀ j (hj:j<l.length),k=j+1→∃ b:Iv K,p=some b∧l[j]=RawI.of b)
theorem ChkAt.start (l:List RawI):ChkAt l 0 none:=⟨rfl,fun _=>rfl,fun j _ h=>by omega⟩
theorem ChkAt.err {l:List RawI} {k:Nat} {p:Option (Iv K)} (h:ChkAt l k p) (hk:k<l.length) (he:eI l[k]≠0):chkL none l=eI l[k]:=by
 rw [h.1,List.drop_eq_getElem_cons hk]
 exact chkL_err he _ _
theorem ChkAt.zero {l:List RawI} {p:Option (Iv K)} (h:ChkAt l 0 p) (hk:0<l.length) {i:Iv K} (hi:l[0]=RawI.of i) (hv:i.f<i.l):ChkAt l 1 (some i):=by
 have hp:=h.2.1 rfl
 subst hp
 refine ⟨?_,fun h=>by omega,fun j hj h=>?_⟩
 ·have h1:=h.1
  rw [List.drop_eq_getElem_cons hk,hi,chkL_first hv] at h1
  exact h1
 obtain rfl:j=0:=by omega
 exact ⟨i,rfl,hi⟩
theorem ChkAt.next {l:List RawI} {j:Nat} {p:Option (Iv K)} (h:ChkAt l (j+1) p) (hk:j+1<l.length) {i:Iv K} (hi:l[j+1]=RawI.of i) (hv:i.f<i.l) :
  ∃ b:Iv K,l[j]'(by omega)=RawI.of b∧((i.f.pt<b.l.pt∨i.f<b.l)→chkL none l=11)∧(¬ (i.f.pt<b.l.pt∨i.f<b.l)→b.l=i.f→chkL none l=5)∧(¬ (i.f.pt<b.l.pt∨i.f<b.l)→b.l≠i.f→ChkAt l (j+2) (some i)):=by
 obtain⟨b,rfl,hb⟩:=h.2.2 j (by omega) rfl
 have h1:=h.1
 rw [List.drop_eq_getElem_cons hk,hi,chkL_next hv] at h1
 refine ⟨b,hb,fun ho=>by rw [h1,if_pos ho],fun ho he=>by rw [h1,if_neg ho,if_pos he],fun ho he=>⟨by rw [h1,if_neg ho,if_neg he],fun h=>by omega,fun j' hj' h=>?_⟩⟩
 obtain rfl:j'=j+1:=by omega
 exact ⟨i,rfl,hi⟩
theorem ChkAt.done {l:List RawI} {p:Option (Iv K)} (h:ChkAt l l.length p):chkL none l=0:=by
 rw [h.1,List.drop_length]
 rfl
end
section
open Go.RowKit Go.Sort Go.Shelf
section
variable {P:Program} {ρ:Ren} {α:Type} [Inhabited α] {enc:α→List Value} {k:Nat}
theorem putCells_size (off:Nat) (d:Array Value) (c:Array Value):(putCells id off d c).size=c.size:=by unfold putCells;simp
theorem sort_block (w:World) (g o n:Nat) (d:Array α) (os:Array Obj) {cur:Array Value} {e:TypeId} (h:w.heap[g]? = some (.cells cur e (0,0))) :
  ∃ cur':Array Value,cur'.size=cur.size∧(sortWorldK enc k w g o n d os).heap[g]? = some (.cells cur' e (0,0)):=by
 refine ⟨putCells id o (flatK enc k d) cur,putCells_size _ _ _,?_⟩
 have hg:=lt_of_heap h
 unfold sortWorldK grow putRowK putRow mapBlock Go.Sort.ahead
 dsimp only
 rw [Array.getElem?_append_left (by simpa using hg),Array.getElem?_modify,if_pos rfl,h]
 rfl
theorem own_of_read {w:World} {g c n:Nat} {e:TypeId} {cur:Array Value} {l:List α} (hk:∀ x,(enc x).length=k) (hn:n=l.length) (hr:RowE enc w (.slice (some ⟨g,0,none⟩) n c) l) (hg:w.heap[g]? = some (.cells cur e (0,0))) (hnc:n≤c) (hcm:c≤maxLen) (hcs:cur.size=c*k) :
  w.ownsRow 0 e k (.slice (some ⟨g,0,none⟩) n c) n (l.flatMap enc):=by
 have hlen:(l.flatMap enc).length=n*k:=by rw [flat_len enc hk,hn]
 refine ⟨hlen,.inr ⟨g,c,cur,rfl,Nat.zero_le _,hg,hnc,hcm,hcs,?_⟩⟩
 rcases hr with ⟨hv,_⟩|⟨g',o',c',hv,_,_,hx⟩
 ·cases hv
 injection hv with e1 e2 e3
 injection e1 with e1
 injection e1 with e1 e4
 subst e1 e4
 have hle:n*k≤c*k:=Nat.mul_le_mul_right _ hnc
 refine List.ext_getElem? fun i=>?_
 by_cases hi:i<n*k
 ·rw [List.getElem?_take_of_lt hi]
  have hi2:i<(l.flatMap enc).length:=by omega
  have h1:=hx i _ (List.getElem?_eq_getElem hi2)
  rw [Nat.zero_add,cell_of hg] at h1
  rw [List.getElem?_eq_getElem hi2,← h1]
  simp
 rw [List.getElem?_eq_none (by rw [List.length_take];omega),List.getElem?_eq_none (by omega)]
theorem sort_own (L:SlLaysF0.n6 P ρ) (hk0:0<k) (aE:∀ w,(isAgg (ρ.t 24)).run P w = .ok true w) (zE:∀ w,(Go.sizeOf (ρ.t 24)).run P w = .ok k w) (hk:∀ x,(enc x).length=k) (h1:∀ x,∀ v∈enc x,v.oneCell'=true) (cf:α→α→Int) (hO:SWO (ltOf cf)) (g:Nat)
  (eg:∀ args w,(callFunc g args).run P w = .ok (.enter g args) w) (hcmp:∀ x y w,Calls P g #[.agg (enc x).toArray,.agg (enc y).toArray] w fun e w'=>e = .returned (.int .i64 (cf x y))∧Keep [] w w')
  {w0 w:World} {b n c:Nat} {e:TypeId} {l:List α} (h:OE enc e k w0 w (.slice (some ⟨b,0,none⟩) n c) l) (hsz:l.length<4611686018427387904) :
  Calls P (ρ.f 6) #[.slice (some ⟨b,0,none⟩) n c,.func (.func g) #[] #[]] w fun ex w' =>
   ex = .returned (.tuple #[])∧∃ l',l'.Perm l∧l'.Pairwise (fun x y=>ltOf cf y x=false)∧OE enc e k w0 w' (.slice (some ⟨b,0,none⟩) n c) l':=by
 have hr:=h.read
 have hf:∀ j,w.frozen? ⟨b,0+j,none⟩=false:=fun j=>by rw [Nat.zero_add];exact own_fz h.row b rfl j
 have hn:n=l.length:=by
  obtain⟨po,pc,e⟩:=h.form
  injection e
 subst hn
 rcases h.row.2 with ⟨hv,_⟩|⟨b',c',cur,hv,_,hg,hnc,hcm,hcs,_⟩
 ·cases hv
 injection hv with e1 e2 e3
 injection e1 with e1
 injection e1 with e1
 subst e1 e3
 have hb:=lt_of_heap hg
 have hH:=rowE_holdsK hk hr hf
 have hcl:CmpLays P g #[] enc k cf b 0 l.toArray.size w:=fun m os dk _ x y=>by
  have:=hcmp x y (sortWorldK enc k w b 0 m dk os)
  exact this.mono fun e w' ⟨he,hkk⟩=>⟨he,hkk.regrown⟩
 have:=AnyQ.slices_SortFunc L k aE zE enc hk h1 cf hO g #[] b 0 c l.toArray w eg hcl hH hb (by simpa using hsz)
 rw [List.size_toArray] at this
 refine this.mono ?_
 rintro ex w' ⟨he,d',m,os,⟨hp1,_,hp2⟩,hs,rfl⟩
 have hp1:d'.size=l.length:=by simpa using hp1
 have hp:d'.toList.Perm l:=by
  have e1:d'.extract 0 l.length=d':=by rw [← hp1,Array.extract_size]
  have e2:l.toArray.extract 0 l.length=l.toArray:=by rw [← List.size_toArray,Array.extract_size]
  rw [e1,e2] at hp2
  simpa using hp2
 have hkp:Keep [b] w (sortWorldK enc k w b 0 m d' os):=keep_sortWorld _ _ _ _ _ _
 refine ⟨he,d'.toList,hp,?_,?_,fun x hx=>h.base x hx,h.keep.trans hkp (by simp;exact h.base b rfl)⟩
 ·rw [List.pairwise_iff_getElem]
  intro i j hi hj hij
  simp only [Array.length_toList] at hi hj
  have:=hs i j (Nat.zero_le _) hij (by rw [← hp1];exact hj)
  rw [getElem!_pos d' j hj,getElem!_pos d' i hi] at this
  simpa using this
 have hh:HoldsK enc k (sortWorldK enc k w b 0 m d' os) b 0 d':=by
  unfold sortWorldK
  exact holdsK_grow enc k _ os b 0 d' (by unfold putRowK;simpa [Go.Sort.ahead] using hb) (holdsK_putRowK enc k _ b 0 l.toArray d' (holdsK_ahead enc k w m b 0 _ hH) (by simpa using hp1))
 have hrow:=holdsK_rowE hk (c:=c) hh (Nat.lt_of_lt_of_le hb hkp.size) (by omega)
 obtain⟨cur',hsz',hg'⟩:=sort_block (enc:=enc) (k:=k) w b 0 m d' os hg
 rw [hp1] at hrow
 have hll:d'.toList.length=l.length:=by rw [Array.length_toList,hp1]
 have:=own_of_read (e:=e) (cur:=cur') hk hll.symm hrow hg' hnc hcm (by rw [hsz'];exact hcs)
 rw [hll]
 exact this
end
instance:Inhabited K:=⟨kZ⟩
theorem cmpK_lt (a b:K):cmpQ a.1 b.1<0↔a<b:=by
 rcases K.tri a b with ⟨h,g⟩|⟨h,g⟩|⟨h,g⟩
 ·rw [h];constructor
  ·intro h;exact absurd h (by decide)
  intro h;exact absurd (K.trans g h) (K.irrefl _)
 ·rw [h];exact ⟨fun _=>g,fun _=>by decide⟩
 rw [h];subst g;constructor
 ·intro h;exact absurd h (by decide)
 intro h;exact absurd h (K.irrefl _)
theorem cmpK_swo:SWO (ltOf fun x y:K=>cmpQ x.1 y.1) where
 irrefl x:=by unfold ltOf;rw [decide_eq_false_iff_not,cmpK_lt];grind
 trans x y z h1 h2:=by unfold ltOf at *;rw [decide_eq_true_iff,cmpK_lt] at *;grind
 ntrans x y z h1 h2:=by unfold ltOf at *;rw [decide_eq_false_iff_not,cmpK_lt] at *;grind
theorem rcmpK_c (x y:K) (w:World):Calls Tryz.prog 77 #[.agg (kcells x.1).toArray,.agg (kcells y.1).toArray] w fun e w'=>e = .returned (.int .i64 (cmpQ x.1 y.1))∧Keep [] w w' :=
 RCompare_c x.1 y.1 ⟨x.2.2.1.mono (by decide),x.2.2.2.mono (by decide)⟩ ⟨y.2.2.1.mono (by decide),y.2.2.2.mono (by decide)⟩ w
theorem sortreal_c (l:List K) (w0 w:World) (sv:Value) (h:OK_ w0 w sv l) (h9:l.length≤1000000000) :
  Calls Tryz.prog 76 #[sv,.func (.func 77) #[] #[]] w fun e w'=>e = .returned (.tuple #[])∧∃ l':List K,l'.Perm l∧l'.Pairwise (· ≤ ·)∧OK_ w0 w' sv l':=by
 have h0:=h
 rcases h.row.2 with ⟨rfl,hn⟩|⟨g,c,cur,rfl,_⟩
 ·have:=AnyF.slices_SortFunc_none { Tryz.sortReal with } none 0 (.func (.func 77) #[] #[]) w
  change Calls Tryz.prog 76 _ _ _ at this
  refine this.mono ?_
  rintro e w' ⟨he,rfl⟩
  obtain rfl:l=[]:=List.eq_nil_of_length_eq_zero hn
  exact ⟨he,[],List.Perm.refl _,List.Pairwise.nil,h0⟩
 have:=sort_own (P:=Tryz.prog) Tryz.sortReal (enc:=fun x:K=>kcells x.1) (k:=9) (by decide) Tryz.isAgg36 Tryz.sizeOf36 (fun x=>kcells_len x.1) (fun x=>kcells_one x.1) (fun x y=>cmpQ x.1 y.1) cmpK_swo 77 (enters_of Tryz.func77 (by kernel_rfl) rfl) (fun x y w=>rcmpK_c x y w) h0 (by omega)
 change Calls Tryz.prog 76 _ _ _ at this
 refine this.mono ?_
 rintro e w' ⟨he,l',hp,hs,ho⟩
 refine ⟨he,l',hp,hs.imp (fun {x y} hxy=>?_),ho⟩
 unfold ltOf at hxy
 rw [decide_eq_false_iff_not,cmpK_lt] at hxy
 grind
end
section
open Classical
theorem rawC_size (r:RawI):(Tryz.prog.info? 49).map (·.size)=some r.C.size:=by
 obtain⟨i,z,hi,hz,hs,hb,hzc⟩:=iv_info
 rw [hi]
 exact congrArg some hs
theorem rawR_one (x:RawR):∀ v∈x.cells,v.oneCell'=true:=by
 intro v hv
 simp only [RawR.cells,List.mem_cons,List.not_mem_nil,or_false] at hv
 rcases hv with rfl|rfl|rfl|rfl|rfl|rfl|rfl|rfl|rfl<;>rfl
theorem rawC_ones (r:RawI):r.C.all (·.oneCell')=true:=all_oneCell_toArray (by
 intro v hv
 unfold RawI.cells at hv
 rcases List.mem_append.1 hv with hv|hv
 ·rcases List.mem_append.1 hv with hv|hv
  ·exact rawR_one _ v hv
  exact rawR_one _ v hv
 simp only [List.mem_cons,List.not_mem_nil,or_false] at hv
 rcases hv with rfl|rfl<;>rfl)
theorem cmpB_gt (a b:Bd K):0<cmpB a b↔b<a:=by
 rcases cmpB_tri a b with ⟨h,g⟩|⟨h,g⟩|⟨h,g⟩
 ·rw [h];exact ⟨fun _=>g,fun _=>by decide⟩
 ·rw [h];constructor
  ·intro h;exact absurd h (by decide)
  intro h;grind
 rw [h];subst g;constructor
 ·intro h;exact absurd h (by decide)
 intro h;grind
theorem cmpB_eq (a b:Bd K):cmpB a b=0↔a=b:=by
 rcases cmpB_tri a b with ⟨h,g⟩|⟨h,g⟩|⟨h,g⟩
 ·rw [h];constructor
  ·intro h;exact absurd h (by decide)
  rintro rfl;grind
 ·rw [h];constructor
  ·intro h;exact absurd h (by decide)
  rintro rfl;grind
 rw [h];exact ⟨fun _=>g,fun _=>rfl⟩
theorem pcheck_p (l:List RawI) (hs:∀ r∈l,r.sz 100000) (w:World) (sv:Value) (hr:RIQ w sv l) (h9:l.length≤1000000) :
  Calls Tryz.prog 92 #[sv] w fun e w'=>e = .returned (.int .i64 (chkL none l))∧Below w.heap.size w w':=by
 have HR:=jX hr
 have HCI:=jX (fun r (h:r∈l)=>pci_p r (hs r h))
 obtain⟨ao,ac,rfl,_⟩:=hr
 clear hs
 go_enter Tryz.func92,Tryz.ntmps92
 go_wp2_with fail
 go_loopw [10] (fun c wr=>∃ (k:Nat) (p:Option (Iv K)),k≤l.length∧c = .int .i64 (k:Int)∧ChkAt l k p∧Below w.heap.size w wr) (fun c _=>l.length-(intOf c).toNat)
 case atStart=>exact ⟨0,none,Nat.zero_le _,rfl,ChkAt.start l,Below.refl _ _⟩
 case round =>
  obtain⟨k,pv,hk,rfl,hca,hb⟩:=hrel
  have HA:=jX hca
  have HB:=jX hb
  clear hca hb
  by_cases hlt:k<l.length
  ·obtain⟨g,o,rfl,hg,hat⟩:=RIQ.elem (HR.out.laterB HB.out) k hlt
   have HI:=jX (HCI.out l[k] (List.getElem_mem hlt))
   have HErr:=jX (HA.out.err hlt)
   obtain⟨r,hrk⟩:∃ r,l[k]=r:=⟨_,rfl⟩
   have Hrk:=jX hrk
   rw [hrk] at hat HI HErr
   clear hrk
   obtain⟨q,hq⟩:∃ q,o+k*20=q:=⟨_,rfl⟩
   rw [hq] at hat
   have HL:=jX (load_rawi wr g q r hat)
   have HBox:=jX (fun (u:World) (b:Nat) (h:u.heap[b]? = some (.cells r.C 49))=>load_rawi u b 0 r (rAt_box h))
   have HCs:=jX (And.intro (rawC_size r) (And.intro (rawC_ones r) (show r.C.size=20 from rfl)))
   have hrv:r.v = .agg r.C:=rfl
   rw [hrv] at HI HL HBox
   obtain⟨C,hC⟩:∃ C,r.C=C:=⟨_,rfl⟩
   rw [hC] at HI HL HBox HCs
   have HC:=jX hC
   clear hat hrv hC
   have hkc:(k:Int)<(l.length:Int):=by omega
   go_upto_region 3 with (fail)
   refine wp_region_lit ?_
   refine' wpList_R (v:=_) (by rfl) (?ha) (fun K hK=>?ka)
   case ha=>(go_simp;try rfl)
   go_simp
   refine hK _ _ ?_
   clear hK K
   refine' wpList_R (v:=_) (by rfl) (?hb) (fun K hK=>?kb)
   case hb=>(go_simp;try rfl)
   go_simp
   refine hK _ _ ?_
   clear hK K
   refine wpList_R (v:=.agg C) (by rfl) (exec_load _ _ ⟨g,q,none⟩ _ rfl rfl HL.out) (fun K hK=>?_)
   go_simp
   refine hK _ _ ?_
   clear hK K
   obtain⟨w1,gt,e1,e2,bgt,hgt,_,hk1⟩:=al1 wr (.cells #[.bool false,.string ⟨#[]⟩,.bool false,.string ⟨#[]⟩,.bool false,.string ⟨#[]⟩,.bool false,.string ⟨#[]⟩,.bool false,.bool false,.string ⟨#[]⟩,.bool false,.string ⟨#[]⟩,.bool false,.string ⟨#[]⟩,.bool false,.string ⟨#[]⟩,.bool false,.bool false,.bool false] 49)
   refine wpList_K (v:=.pointer (some ⟨wr.heap.size,0,none⟩)) (w':=wr.alloc (.cells #[.bool false,.string ⟨#[]⟩,.bool false,.string ⟨#[]⟩,.bool false,.string ⟨#[]⟩,.bool false,.string ⟨#[]⟩,.bool false,.bool false,.string ⟨#[]⟩,.bool false,.string ⟨#[]⟩,.bool false,.string ⟨#[]⟩,.bool false,.string ⟨#[]⟩,.bool false,.bool false,.bool false] 49)) (by rfl) (al_iv _ _ _ rfl) (fun K hK=>?_)
   rw [← e1,e2]
   clear e1
   go_simp
   refine hK _ _ ?_
   clear hK K
   refine' wpList_R (v:=_) (by rfl) (?hc) (fun K hK=>?kc)
   case hc=>(go_simp;try rfl)
   go_simp
   refine hK _ _ ?_
   clear hK K
   refine wpList_rowK (by rfl) _ _ _ rfl gt C rfl rfl _ _ bgt HCs.out.1 (by rw [HCs.out.2.2];rfl) HCs.out.2.1 (fun K hK=>?_)
   obtain⟨w2,e4,b4,k4⟩:=setRow_at (cs:=C) bgt
   rw [e4]
   go_simp
   refine hK _ _ ?_
   clear hK K e4 HL
   have HW2:=jX (show Keep [] wr w2 from hk1.trans k4 (by simp;omega))
   have Bgt:=jX b4
   have HB2:=jX (HB.out.trans (Below.mono HW2.out.below0 HB.out.size))
   clear b4 k4 hk1 bgt
   go_upto_region 4 with (fail)
   refine wp_region_lit ?_
   refine wpList_R (v:=.agg C) (by rfl) (exec_load _ _ ⟨gt,0,none⟩ _ rfl rfl (HBox.out w2 gt Bgt.out)) (fun K hK=>?_)
   go_simp
   refine hK _ _ ?_
   clear hK K
   refine wpList_plain (by rfl) (fun K hK=>?_)
   refine wp_enter 96 #[.agg C] (by go_simp) ?_
   refine (HI.out _).mono ?_
   rintro e w3 ⟨rfl,hb3⟩
   refine ⟨_,rfl,?_⟩
   go_simp
   refine hK _ _ ?_
   clear hK K
   have HB3:=jX (HB2.out.trans (Below.mono hb3 HB2.out.size))
   have B2gt:=jX ((hb3.block gt (lt_of_heap Bgt.out)).trans Bgt.out)
   clear Bgt
   have Bgt:=B2gt
   clear B2gt
   clear hb3 HI
   have HZ:=jX (@eI_zero r)
   obtain⟨e0,he0⟩:∃ e0,eI r=e0:=⟨_,rfl⟩
   rw [he0] at HErr HZ
   rw [he0]
   clear he0
   by_cases he:e0=0
   ·subst he
    obtain⟨i,hi,hv⟩:=HZ.out rfl
    have Hi:=jX (Hrk.out.trans hi)
    have Hv:=jX hv
    have Hri:=jX hi
    clear hi hv HZ HErr
    rcases Nat.eq_zero_or_pos k with hk0|hk0
    ·subst hk0
     have HN:=jX (HA.out.zero hlt Hi.out Hv.out)
     go_wp2_with fail
     go_roundw
     case rel=>exact ⟨1,some i,by omega,rfl,HN.out,HB3.out⟩
     case measure=>simp [intOf];omega
    obtain⟨j,hj⟩:∃ j,k=j+1:=⟨k-1,by omega⟩
    have hjl:j<l.length:=by omega
    obtain⟨b,hb,n11,n5,nok⟩:∃ b:Iv K,l[j]'hjl=RawI.of b∧((i.f.pt<b.l.pt∨i.f<b.l)→chkL none l=11)∧(¬ (i.f.pt<b.l.pt∨i.f<b.l)→b.l=i.f→chkL none l=5)∧(¬ (i.f.pt<b.l.pt∨i.f<b.l)→b.l≠i.f→ChkAt l (k+1) (some i)):=by
     subst hj
     exact ChkAt.next HA.out hlt Hi.out Hv.out
    obtain⟨g',o',e,hg',hat'⟩:=RIQ.elem (HR.out.laterB HB3.out) j hjl
    injection e with e
    injection e with e1 e2
    subst e1 e2
    rw [hb] at hat'
    obtain⟨qb,hqb⟩:∃ qb,o+j*20=qb:=⟨_,rfl⟩
    rw [hqb] at hat'
    have HLb:=jX (load_rawi w3 g qb (RawI.of b) hat')
    have hCi:C=iC i:=by rw [← HC.out,Hri.out];rfl
    have N11:=jX n11
    have N5:=jX n5
    have Nok:=jX nok
    have H1:=jX (last_c b)
    have H2:=jX (first_c i)
    have H3:=jX (bcmp_c b.l i.f)
    have H4:=jX (krcmp_c i.f.pt b.l.pt)
    have HXf:Hid (∀ (u:World),u.heap[gt]? = some (.cells (iC i) 49)→(loadVar 36 ⟨gt,0,none⟩).run Tryz.prog u = .ok (kv i.f.pt) u):=fun u h=>load_real u gt 0 i.f.pt.1 (ivAt_box h).frm
    have HXt:Hid (∀ (u:World) (gb:Nat),u.heap[gb]? = some (.cells (iC b) 49)→(loadVar 36 ⟨gb,9,none⟩).run Tryz.prog u = .ok (kv b.l.pt) u):=fun u gb h=>load_real u gb (0+9) b.l.pt.1 (ivAt_box h).upto
    have HBb:=jX (fun (u:World) (gb:Nat) (h:u.heap[gb]? = some (.cells (iC b) 49))=>load_iv u gb 0 b (ivAt_box h))
    have HSb:=jX (And.intro (iv_size b) (And.intro (iv_ones b) (show (iC b).size=20 from rfl)))
    have hlt1:=cmpK_lt i.f.pt b.l.pt
    have hgt1:=cmpB_gt b.l i.f
    have heq1:=cmpB_eq b.l i.f
    have Hlt1:=jX hlt1
    have Hgt1:=jX hgt1
    have Heq1:=jX heq1
    rw [show (RawI.of b).v = .agg (iC b) from rfl] at HLb
    rw [← hCi] at HXf
    rw [show iv i = .agg (iC i) from rfl,← hCi] at H2
    rw [show iv b = .agg (iC b) from rfl] at H1 HBb
    unfold bv at H1 H2 H3
    unfold kv at HXf HXt H4
    have hsub:(k:Int)-1=(j:Int):=by omega
    have hjc:(j:Int)<(l.length:Int):=by omega
    have hwj:IntKind.i64.wrap (j:Int)=(j:Int):=IntWalk.i64_in _ (by omega)
    have hj0:(0:Int)≤(j:Int):=by omega
    have hjt:(j:Int).toNat=j:=by omega
    have hke:((k:Int) == 0)=false:=by rw [beq_eq_false_iff_ne];omega
    clear hb n11 n5 nok hCi hlt1 hgt1 heq1 hat' hj
    generalize (bcells i.f).toArray=BF at *
    generalize (bcells b.l).toArray=BL at *
    generalize kC i.f.pt=F1 at *
    generalize kC b.l.pt=L1 at *
    generalize iC b=CB at *
    generalize cmpB b.l i.f=n2 at *
    generalize cmpQ i.f.pt.1 b.l.pt.1=n1 at *
    go_upto_region 8 with (fail)
    refine wp_region_lit ?_
    refine' wpList_R (v:=_) (by rfl) (?hd) (fun K hK=>?kd)
    case hd=>(go_simp;try rfl)
    go_simp
    refine hK _ _ ?_
    clear hK K
    refine' wpList_R (v:=_) (by rfl) (?he) (fun K hK=>?ke)
    case he=>(go_simp;try rfl)
    go_simp
    refine hK _ _ ?_
    clear hK K
    refine' wpList_R (v:=_) (by rfl) (?hf) (fun K hK=>?kf)
    case hf=>(go_simp;try rfl)
    go_simp
    refine hK _ _ ?_
    clear hK K
    refine' wpList_R (v:=_) (by rfl) (?hg) (fun K hK=>?kg)
    case hg=>(go_simp;try rfl)
    go_simp
    refine hK _ _ ?_
    clear hK K
    refine wpList_R (v:=.agg CB) (by rfl) (exec_load _ _ ⟨g,qb,none⟩ _ rfl rfl HLb.out) (fun K hK=>?_)
    go_simp
    refine hK _ _ ?_
    clear hK K
    obtain⟨w4,gb,e1,e2,bgb,hgb,_,hk4⟩:=al1 w3 (.cells #[.bool false,.string ⟨#[]⟩,.bool false,.string ⟨#[]⟩,.bool false,.string ⟨#[]⟩,.bool false,.string ⟨#[]⟩,.bool false,.bool false,.string ⟨#[]⟩,.bool false,.string ⟨#[]⟩,.bool false,.string ⟨#[]⟩,.bool false,.string ⟨#[]⟩,.bool false,.bool false,.bool false] 49)
    refine wpList_K (v:=.pointer (some ⟨w3.heap.size,0,none⟩)) (w':=w3.alloc (.cells #[.bool false,.string ⟨#[]⟩,.bool false,.string ⟨#[]⟩,.bool false,.string ⟨#[]⟩,.bool false,.string ⟨#[]⟩,.bool false,.bool false,.string ⟨#[]⟩,.bool false,.string ⟨#[]⟩,.bool false,.string ⟨#[]⟩,.bool false,.string ⟨#[]⟩,.bool false,.bool false,.bool false] 49)) (by rfl) (al_iv _ _ _ rfl) (fun K hK=>?_)
    rw [← e1,e2]
    clear e1
    go_simp
    refine hK _ _ ?_
    clear hK K
    refine wpList_rowK (by rfl) _ _ _ rfl gb CB rfl rfl _ _ bgb HSb.out.1 (by rw [HSb.out.2.2];rfl) HSb.out.2.1 (fun K hK=>?_)
    obtain⟨w5,e5,b5,k5⟩:=setRow_at (cs:=CB) bgb
    rw [e5]
    go_simp
    refine hK _ _ ?_
    clear hK K e5 HLb
    have HW5:=jX (show Keep [] w3 w5 from hk4.trans k5 (by simp;omega))
    have Bgb:=jX b5
    have Bgt5:=jX (HW5.out.heap Bgt.out (by simp))
    have HB5:=jX (HB3.out.trans (Below.mono HW5.out.below0 HB3.out.size))
    clear b5 k5 hk4 bgb
    go_wp2_with fail
    have HX1:Hid (∀ m:KW w5,(loadVar 49 ⟨gb,0,none⟩).run Tryz.prog (Wk w5 m) = .ok (.agg CB) (Wk w5 m)):=fun m=>HBb.out _ gb (m.k.heap Bgb.out (by simp))
    have HX2:Hid (∀ m:KW w5,(loadVar 49 ⟨gt,0,none⟩).run Tryz.prog (Wk w5 m) = .ok (.agg C) (Wk w5 m)):=fun m=>HBox.out _ gt (m.k.heap Bgt5.out (by simp))
    have Q1:Hid (∀ m:KW w5,Calls Tryz.prog 107 #[.agg CB] (Wk w5 m) fun e w'=>e = .returned (.agg BL)∧∃ m,w'=Wk w5 m):=fun m=>qk m (H1.out _)
    have Q2:Hid (∀ m:KW w5,Calls Tryz.prog 106 #[.agg C] (Wk w5 m) fun e w'=>e = .returned (.agg BF)∧∃ m,w'=Wk w5 m):=fun m=>qk m (H2.out _)
    have Q3:Hid (∀ m:KW w5,Calls Tryz.prog 105 #[.agg BL,.agg BF] (Wk w5 m) fun e w'=>e = .returned (.int .i64 n2)∧∃ m,w'=Wk w5 m):=fun m=>qk m (H3.out _)
    refine wp_region_keep (by kernel_rfl) (by kernel_rfl) ?_
    repeat (first
     | go_big_quiet_skip
     | (go_big_quiet_want;first
      | (refine quiet_load _ _ _ (.agg CB) rfl rfl (by rintro _ ⟨m,rfl⟩;exact HX1.out m) ?_;go_simp;go_big_quiet_on)|(refine quiet_load _ _ _ (.agg C) rfl rfl (by rintro _ ⟨m,rfl⟩;exact HX2.out m) ?_;go_simp;go_big_quiet_on)
      | (go_big_quiet_op;first|go_big_quiet_on|go_big_quiet_call (first
       | (go_at_call 107;with_reducible exact (Q1).out _)|(go_at_call 106;with_reducible exact (Q2).out _)|(go_at_call 105;with_reducible exact (Q3).out _)))))
    refine wpQuiet_nil ?_
    rintro w6 ⟨⟨_,hk_w6⟩,rfl⟩
    have Bgb6:=jX (hk_w6.heap Bgb.out (by simp))
    have Bgt6:=jX (hk_w6.heap Bgt5.out (by simp))
    have HB6:=jX (HB5.out.trans (Below.mono hk_w6.below0 HB5.out.size))
    clear hk_w6 HX1 HX2 Q1 Q2 Q3 H1 H2 H3
    go_upto_region 10 with (fail)
    refine wp_region_lit ?_
    refine' wpList_R (v:=_) (by rfl) (?hh) (fun K hK=>?kh)
    case hh=>(go_simp;try rfl)
    go_simp
    refine hK _ _ ?_
    clear hK K
    refine wpList_R (v:=.agg F1) (by rfl) (exec_load _ _ ⟨gt,0,none⟩ _ rfl rfl (HXf.out w6 Bgt6.out)) (fun K hK=>?_)
    go_simp
    refine hK _ _ ?_
    clear hK K
    refine' wpList_R (v:=_) (by rfl) (?hi) (fun K hK=>?ki)
    case hi=>(go_simp;try rfl)
    go_simp
    refine hK _ _ ?_
    clear hK K
    refine wpList_R (v:=.agg L1) (by rfl) (exec_load _ _ ⟨gb,9,none⟩ _ rfl rfl (HXt.out w6 gb Bgb6.out)) (fun K hK=>?_)
    go_simp
    refine hK _ _ ?_
    clear hK K
    refine wpList_plain (by rfl) (fun K hK=>?_)
    refine wp_enter 77 #[.agg F1,.agg L1] (by go_simp) ?_
    refine (H4.out _).mono ?_
    rintro e w7 ⟨rfl,hk7⟩
    refine ⟨_,rfl,?_⟩
    go_simp
    refine hK _ _ ?_
    clear hK K
    have HB7:=jX (HB6.out.trans (Below.mono hk7.below0 HB6.out.size))
    clear hk7 H4
    by_cases h1:n1<0
    ·have HE:=jX (N11.out (.inl (Hlt1.out.1 h1)))
     clear N11 N5 Nok
     go_wp2_with fail
     go_ret
     exact ⟨by rw [HE.out];rfl,HB7.out⟩
    by_cases h2:0<n2
    ·have HE:=jX (N11.out (.inr (Hgt1.out.1 h2)))
     clear N11 N5 Nok
     go_wp2_with fail
     go_ret
     exact ⟨by rw [HE.out];rfl,HB7.out⟩
    have hno:¬ (i.f.pt<b.l.pt∨i.f<b.l):=fun h=>h.elim (fun h=>h1 (Hlt1.out.2 h)) (fun h=>h2 (Hgt1.out.2 h))
    by_cases h3:n2=0
    ·have HE:=jX (N5.out hno (Heq1.out.1 h3))
     subst h3
     clear N11 N5 Nok hno
     go_wp2_with fail
     go_ret
     exact ⟨by rw [HE.out];rfl,HB7.out⟩
    have HE:=jX (Nok.out hno (fun h=>h3 (Heq1.out.2 h)))
    have h3b:(n2 == 0)=false:=by rw [beq_eq_false_iff_ne];exact h3
    clear N11 N5 Nok hno
    go_wp2_with fail
    go_roundw
    case rel=>exact ⟨k+1,some i,by omega,congrArg (Value.int .i64) (by omega),HE.out,HB7.out⟩
    case measure=>simp [intOf];omega
   have hne:(e0 != 0)=true:=by rw [bne_iff_ne];exact he
   have HE:=jX (HErr.out he)
   clear HZ HErr he
   go_wp2_with fail
   go_ret
   exact ⟨by rw [HE.out];rfl,HB3.out⟩
  obtain rfl:k=l.length:=by omega
  have HD:=jX (HA.out.done)
  go_wp2_with fail
  go_ret
  exact ⟨by rw [HD.out];rfl,HB.out⟩
end
end Go.Proofs.YtejegogbhpmgfaaGreatDoor
