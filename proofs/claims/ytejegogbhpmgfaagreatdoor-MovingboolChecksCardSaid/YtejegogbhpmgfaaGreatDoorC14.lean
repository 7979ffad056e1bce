/- Parts of a proof about this translation: Ru, Rw, Rx. -/
import Derived.Test.YtejegogbhpmgfaaGreatDoorC13
set_option linter.unusedVariables false
set_option linter.unusedSimpArgs false
set_option maxRecDepth 100000
set_option maxHeartbeats 8000000
namespace Go.Proofs.YtejegogbhpmgfaaGreatDoor
open Go.RowKit
theorem cmpN_ge {a b:Nat} (h:b≤a):¬ Lib.compareInt (a:Int) b<0:=by unfold Lib.compareInt;split<;>(try split)<;>omega
theorem cmpN_le {a b:Nat} (h:a≤b):Lib.compareInt (a:Int) b≤0:=by unfold Lib.compareInt;split<;>(try split)<;>omega
theorem own_one (w:World) (v:Value):(w.alloc (.cells #[v] 3)).ownsRow 0 3 1 (.slice (some ⟨w.heap.size,0,none⟩) 1 1) 1 [v]:=by
 refine ⟨rfl,.inr ⟨w.heap.size,1,#[v],rfl,Nat.zero_le _,World.alloc_heap_new w _,Nat.le_refl _,by simp [maxLen],rfl,rfl⟩⟩
def qcell (w:World) (g i:Nat):Nat:=match w.cell? ⟨g,i,none⟩ with|some v=>(intOf v).toNat | none=>0
theorem qcell_of {w:World} {g i t:Nat} (h:w.cell? ⟨g,i,none⟩=some (.int .i64 (t:Int))):qcell w g i=t:=by
 unfold qcell;rw [h];simp [intOf]
theorem set_icells {w:World} {b i t:Nat} {l:List Nat} (h:w.heap[b]? = some (.cells (ints (l.set i t)).toArray 3 (0,0))) (hi:i<l.length):w.cell? ⟨b,i,none⟩=some (.int .i64 (t:Int)):=by
 rw [cell_of h]
 simp [ints,hi]
theorem divide_m (w:World) (v1 v2:Value) (A B:Nat) (h1:DR w v1 A) (h2:DR w v2 B) (hA:Ln A≤100000000) (hA7:7<Ln A) (hBA:B≤A) (hB0:0<B) :
  Calls Tryz.prog 173 #[v1,v2] w (DivPost w A B):=by
 obtain⟨i0,hi,hz0,hz1,hz2⟩:=info_parts2 infoInt
 have Hi:=jX (And.intro hi (And.intro hz0 (And.intro hz1 hz2)))
 clear hi hz0 hz1 hz2
 have hB:Ln B≤100000000:=Nat.le_trans (Ln_mono hBA) hA
 have HS1:=jX (small_any w v1 A h1 (by omega))
 have HS2:=jX (small_any w v2 B h2 (by omega))
 have HC:=jX (rcompare_c w v1 v2 A B h1 h2 (by omega) (by omega))
 have hcn:=cmpN_ge hBA
 generalize Lib.compareInt (A:Int) B=c at *
 have H1:=jX h1
 have H2:=jX h2
 obtain⟨ao,ac,rfl,_⟩:=h1.form
 obtain⟨bo,bc,rfl,_⟩:=h2.form
 have HA7:=jX hA7
 obtain⟨n,hn⟩:∃ n,Ln A=n:=⟨_,rfl⟩
 obtain⟨m,hm⟩:∃ m,Ln B=m:=⟨_,rfl⟩
 have Hca:Hid (∀ w',Keep [] w w'→∀ i,i<n→∃ g o,ao=some ⟨g,o,none⟩∧g<w'.heap.size∧w'.cell? ⟨g,o+i,none⟩=some (.int .i64 ((A / 256 ^ i % 256:Nat):Int))):=fun w' hk i hi=>(h1.later hk).cell (by omega)
 have HLa:Hid (A<256 ^ n):=by rw [← hn];exact Ln_lt A
 have HLb:Hid (Ln B≤100000000):=hB
 rw [hn] at hA HS1 HC H1 HA7 ⊢
 rw [hm] at hB HS2 HC H2 ⊢
 have HB0:=jX hB0
 have HQn:Hid (A / B<256 ^ n):=Nat.lt_of_le_of_lt (Nat.div_le_self _ _) HLa.out
 clear h1 h2 hA7 hBA hn hm hB0
 go_enter Tryz.func173,Tryz.ntmps173
 go_wp2_with fail
 refine HS1.out.mono ?_
 rintro e w2 ⟨y1,f1,rfl,rfl,hf1⟩
 obtain rfl:=hf1 HA7.out
 dsimp only
 clear HS1 hf1
 go_wp2_with fail
 refine HS2.out.mono ?_
 rintro e w3 ⟨y2,f2,rfl,rfl,_⟩
 dsimp only
 clear HS2
 go_wp2_with fail
 refine HC.out.mono ?_
 rintro e w4 ⟨rfl,hk⟩
 have Hk:=jX hk
 clear hk HC
 dsimp only
 have hmk:=make_ints w4 n (by omega)
 go_wp2_with fail
 go_loopw [5,10] (fun r x wr=>∃ j:Nat,j≤n∧x = .int .i64 ((j:Int)-1)∧DR wr r (A / 256 ^ j % B)∧Keep [] w3 wr∧wr.heap[w4.heap.size]? = some (.cells (ints (mixd 256 n j (A / B) 0)).toArray 3 (0,0))) (fun _ x _=>(intOf x+1).toNat)
 case atStart=>exact ⟨n,Nat.le_refl _,rfl,by rw [Nat.div_eq_of_lt HLa.out,Nat.zero_mod];exact dr_nil _,Hk.out.trans0 (Keep.alloc _ _ _),by rw [mixd_full,dl_zero];exact World.alloc_heap_new w4 _⟩
 case round =>
  obtain⟨j,hj,rfl,hr,hkp,hbx⟩:=hrel
  obtain⟨wo,rfl⟩:∃ wo:World,wo=wr:=⟨_,rfl⟩
  have Hr:=jX hr
  have Hkp:=jX hkp
  have Hbx:=jX hbx
  obtain⟨ro,rc,rfl,_⟩:=hr.form
  clear hr hkp hbx hmk hcn
  by_cases hj0:j=0
  ·subst hj0
   have hr0:A / 256 ^ 0 % B=A % B:=by rw [Nat.pow_zero,Nat.div_one]
   have HT:=jX (rtrim_c wo _ (dl 256 n (A / B)) (by rw [dl_length];omega) (block_read (by rw [← mixd_zero 256 n (A / B) 0];exact Hbx.out) (dl_length _ _ _)) block_cap)
   go_wp2_with fail
   refine HT.out.mono ?_
   rintro e w5 ⟨ht,rfl⟩
   obtain⟨v,rfl,hdr⟩:=trimmed_dr ht (dl_lt (by decide) _ _)
   rw [val_dl (by decide) _ _ HQn.out] at hdr
   have Hdr:=jX hdr
   clear ht hdr HT
   dsimp only
   go_wp2_with fail
   go_ret2
   exact ⟨_,_,rfl,Hdr.out,by rw [← hr0];exact Hr.out,Hkp.out⟩
  obtain⟨i,rfl⟩:∃ i,j=i+1:=⟨j-1,by omega⟩
  rw [show (((i+1:Nat):Int)-1)=(i:Int) by omega]
  have hin:i<n:=by omega
  obtain⟨g1,o1,rfl,hg1,c1⟩:=Hca.out wo Hkp.out i hin
  have d9:=Nat.mod_lt (A / 256 ^ i) (show 0<256 by decide)
  have HR:=jX (@dv_rem A B i HB0.out)
  have HQ:=jX (@dv_quo A B i HB0.out)
  have HBd:=jX (@dv_bound A B i HB0.out)
  have hRB:A / 256 ^ (i+1) % B<B:=Nat.mod_lt _ HB0.out
  have HLr:Hid (Ln (A / 256 ^ (i+1) % B)≤100000000):=Nat.le_trans (Ln_mono (Nat.le_of_lt hRB)) HLb.out
  clear hRB hj0
  generalize A / 256 ^ (i+1) % B=R at *
  generalize A / 256 ^ i % 256=d at *
  obtain⟨q,hq⟩:∃ q,Ln R=q:=⟨_,rfl⟩
  have hlq:(ints (digs 256 R)).length=q:=by rw [ints_length];exact hq
  have hq9:q≤100000000:=by rw [← hq];exact HLr.out
  rw [hq] at Hr ⊢
  go_wp2_with (at_builtin;refine wpList_append_row3 _ rfl _ _ 133 rfl 3 i0 _ 8 Tryz.underlying133 Hi.out.1 Hi.out.2.1 Hi.out.2.2.1 Hi.out.2.2.2 rfl _ 1 [.int .i64 (d:Int)] rfl (own_one _ _) (by decide) _ (ints (digs 256 R)) rfl (Hr.out.1.keep0 (Keep.alloc _ _ _)) (ints_one _) ?c3 ?c4 ?_)
  case c3=>rw [hlq];unfold maxLen;omega
  case c4=>rw [hlq];omega
  intro v' wa hoa hga hda
  try rw [hlq] at hoa
  have hka:Keep [] wo wa:=(Keep.alloc _ _ _).grownPast hga hda (fun k hk=>by simp [Value.ownBlock] at hk;omega)
  have Hoa:=jX hoa
  have Hka:=jX hka
  obtain⟨po,pc,rfl⟩:=own_form hoa
  have hrow:RowR wa (.slice po (1+q) pc) (ints (d :: digs 256 R)):=RowR.of_own hoa
  have HT:=jX (rtrim_c wa _ (d :: digs 256 R) (by rw [List.length_cons];have:(digs 256 R).length=q:=hq;omega) hrow (own_cap hoa))
  clear hoa hga hda hka hrow c1
  go_wp2_with fail
  refine HT.out.mono ?_
  rintro e w5 ⟨ht,rfl⟩
  obtain⟨v,rfl,hdr⟩:=trimmed_dr ht (by
   intro x hx
   rcases List.mem_cons.1 hx with rfl|hx
   ·exact d9
   exact digs_lt (by decide) R x hx)
  have hval:val 256 (d :: digs 256 R)=256*R+d:=by
   have h:=val_digs (B:=256) (by decide) R
   rw [val,h];omega
  rw [hval] at hdr
  obtain⟨R0,hR0⟩:∃ R0,256*R+d=R0:=⟨_,rfl⟩
  rw [hR0] at hdr HR HQ HBd
  have Hdr:=jX hdr
  clear ht hdr HT hval Hoa hR0 Hr hlq hq hq9 HLr
  dsimp only
  go_wp2_with fail
  have Hkp5:=jX (Hkp.out.trans0 Hka.out)
  have Hbx5:=jX (Hka.out.heap Hbx.out (by simp))
  clear Hkp Hbx Hka
  go_loopw [5] (fun rv wr=>∃ t R':Nat,t≤255∧R'+t*B=R0∧DR wr rv R'∧Keep [] w3 wr∧wr.heap[w4.heap.size]? = some (.cells (ints ((mixd 256 n (i+1) (A / B) 0).set i t)).toArray 3 (0,0))) (fun _ wr=>256-qcell wr w4.heap.size i)
  case atStart=>exact ⟨0,R0,by omega,by omega,Hdr.out,Hkp5.out,by rw [mixd_set0];exact Hbx5.out⟩
  case round =>
   obtain⟨t,R',ht,hRt,hdr,hkw,hbw⟩:=hrel
   have HdR:=jX hdr
   have hRle:R'≤R0:=by omega
   have HC:=jX (rcompare_c wr _ _ R' B hdr (H2.out.later hkw) (by
    have h1:=Ln_mono hRle
    have h2:=Ln_mono (Nat.le_of_lt HBd.out)
    have h3:=Ln_mul 256 B
    have h4:Ln 256≤2:=Ln_le.2 (by decide)
    have:=HLb.out
    omega) (by have:=HLb.out;omega))
   have HLR:Hid (Ln R'≤200000000):=by
    have h1:=Ln_mono hRle
    have h2:=Ln_mono (Nat.le_of_lt HBd.out)
    have h3:=Ln_mul 256 B
    have h4:Ln 256≤2:=Ln_le.2 (by decide)
    have:=HLb.out
    show Ln R'≤200000000
    omega
   have hmx:i<(mixd 256 n (i+1) (A / B) 0).length:=by rw [mixd_length];exact hin
   obtain⟨xo,xc,rfl,_⟩:=hdr.form
   have HRt:=jX hRt
   have Hmx:=jX hmx
   have Hkw:=jX hkw
   have Hbw:=jX hbw
   have HtA:=jX ht
   have hbz:=lt_of_heap hbw
   have Hq0:=jX (qcell_of (set_icells hbw hmx))
   clear hRle hdr hkw hbw hmx hRt
   by_cases hlt:R'<B
   ·rw [cmpN_lt hlt] at HC
    obtain⟨e1,e2⟩:=dv_end HB0.out HRt.out hlt
    rw [e1] at HQ
    rw [e2] at HR
    clear e1 e2
    go_wp2_with fail
    refine HC.out.mono ?_
    rintro e w6 ⟨rfl,hk⟩
    have Hk6:=jX hk
    clear hk HC
    dsimp only
    go_wp2_with fail
    go_roundw
    case rel=>exact ⟨i,by omega,rfl,by rw [HR.out];exact HdR.out.later Hk6.out,Hkw.out.trans0 Hk6.out,by rw [← mixd_back (Q:=A / B) hin,HQ.out];exact Hk6.out.heap Hbw.out (by simp)⟩
    case measure=>simp [intOf]
   have ht9:t<255:=by
    rcases Nat.lt_or_ge t 255 with h|h
    ·exact h
    obtain rfl:t=255:=by omega
    exact absurd (dv_last HRt.out HBd.out) hlt
   have hcg:=cmpN_ge (show B≤R' by omega)
   have htd:decide ((t:Int)<255)=true:=by simp;omega
   have HBR:Hid (B≤R'):=by show B≤R';omega
   generalize Lib.compareInt (R':Int) B=c' at *
   have hcg2:(0:Int)≤c':=by omega
   clear hlt
   go_wp2_with fail
   refine HC.out.mono ?_
   rintro e w6 ⟨rfl,hk⟩
   have Hb6:=jX (hk.heap Hbw.out (by simp))
   have hcq:=set_icells Hb6.out Hmx.out
   have hb6:=lt_of_heap Hb6.out
   have hb6f:=frozen_of Hb6.out
   have HdR6:=jX (HdR.out.later hk)
   have Hk6:=jX (Hkw.out.trans0 hk)
   clear hk HC HdR Hkw Hbw hbz
   dsimp only
   go_wp2_with fail
   go_loopw [11,12] (fun sv pv wr=>∃ s:Nat,sv = .int .i64 (s:Int)∧1≤s∧s≤128∧s*B≤R'∧DR wr pv (s*B)∧Keep [] w6 wr) (fun sv _ _=>256-(intOf sv).toNat)
   case atStart=>exact ⟨1,rfl,by omega,by omega,by rw [Nat.one_mul];exact HBR.out,by rw [Nat.one_mul];exact H2.out.later Hk6.out,Keep.refl _ _⟩
   case round =>
    obtain⟨s,rfl,hs1,hs2,hsB,hdp,hk7⟩:=hrel
    have hLs:Ln (s*B)≤200000000:=Nat.le_trans (Ln_mono hsB) HLR.out
    obtain⟨yo,yc,rfl,_⟩:=hdp.form
    have HsB:=jX hsB
    have HkV:=jX hk7
    have HdpV:=jX hdp
    have HP:=jX (plus_c wr _ _ _ _ hdp hdp (by omega) (by omega))
    clear hsB hk7 hdp hcq hb6 hb6f
    by_cases h2s:2*s≤128
    ·go_wp2_with fail
     refine HP.out.mono ?_
     rintro e w8 ⟨pv,rfl,hd8,hk8⟩
     have HC8:=jX (rcompare_c w8 _ _ _ _ hd8 ((HdR6.out.later HkV.out).later hk8) (by have:=Ln_add (s*B) (s*B);omega) (by have:=HLR.out;omega))
     obtain⟨qo,qc,rfl,_⟩:=hd8.form
     have Hk8:=jX hk8
     clear HP hk8 hd8
     dsimp only
     by_cases hle:s*B+s*B≤R'
     ·have hcl:=cmpN_le hle
      generalize Lib.compareInt ((s*B+s*B:Nat):Int) (R':Int)=c8 at *
      go_wp2_with fail
      refine HC8.out.mono ?_
      rintro e w9 ⟨rfl,hk9⟩
      have Hk9:=jX ((HkV.out.trans0 Hk8.out).trans0 hk9)
      have Hdp9:=jX ((HdpV.out.later Hk8.out).later hk9)
      have HP9:=jX (plus_c w9 _ _ _ _ Hdp9.out Hdp9.out (by omega) (by omega))
      have Hle:=jX hle
      clear hk9 HC8 hle
      dsimp only
      go_wp2_with fail
      refine HP9.out.mono ?_
      rintro e wx ⟨qv,rfl,hdx,hkx⟩
      have Hdx:=jX hdx
      have Hkx:=jX hkx
      clear HP9 hdx hkx
      dsimp only
      go_wp2_with fail
      go_roundw
      case rel =>
       exact ⟨2*s,by go_num,by omega,by omega,by have:=Hle.out;rw [Nat.mul_assoc];omega,by rw [show 2*s*B=s*B+s*B by rw [Nat.mul_assoc];omega];exact Hdx.out,Hk9.out.trans0 Hkx.out⟩
      case measure=>simp [intOf];omega
     have hcl:=cmpN_gt (show R'<s*B+s*B by omega)
     rw [hcl] at HC8
     clear hcl hle
     go_wp2_with fail
     refine HC8.out.mono ?_
     rintro e w9 ⟨rfl,hk9⟩
     have HkV:=jX ((HkV.out.trans0 Hk8.out).trans0 hk9)
     have HdpV:=jX ((HdpV.out.later Hk8.out).later hk9)
     clear hk9 HC8
     dsimp only
     go_wp2_with fail
     have HSk:Hid (∀ W',Keep [] w9 W'→W'.cell? ⟨w4.heap.size,i,none⟩=some (.int .i64 (t:Int))):=fun W' hk=>set_icells ((HkV.out.trans0 hk).heap Hb6.out (by simp)) Hmx.out
     have HM:Hid (∀ W',Keep [] w9 W'→Calls Tryz.prog 141 #[.slice xo (Ln R') xc,.slice yo (Ln (s*B)) yc] W' (DigitsN W' (R'-s*B))):=fun W' hk =>
      minus_at W' _ _ R' (s*B) (HdR6.out.later (HkV.out.trans0 hk)) (HdpV.out.later hk) (by have:=HLR.out;omega) HsB.out
     have Hk6V:=jX (Hk6.out.trans0 HkV.out)
     refine wp_region_heldT (S:=fun W'=>W'.cell? ⟨w4.heap.size,i,none⟩=some (.int .i64 (t:Int))) 13 (by kernel_rfl) (by kernel_rfl) (fun _ _ d _ _ h=>by cases d<;>exact h) ?_
     have hk0:=Keep.drew [] w9
     have hS0:=HSk.out _ hk0
     have hb0:=lt_of_heap ((HkV.out.trans0 hk0).heap Hb6.out (by simp))
     generalize World.drew w9=u0 at *
     refine' jV (v:=_) 0 hS0 (fun w hw=>?hA0) (fun K hK=>?kA0)
     case hA0=>(go_simp;try rfl)
     go_simp
     refine hK _ ?_
     clear hK K
     refine' jV (v:=_) 1 hS0 (fun w hw=>?hA1) (fun K hK=>?kA1)
     case hA1=>(go_simp;try rfl)
     go_simp
     refine hK _ ?_
     clear hK K
     refine' jV (v:=_) 2 hS0 (fun w hw=>?hA2) (fun K hK=>?kA2)
     case hA2=>(go_simp;try rfl)
     go_simp
     refine hK _ ?_
     clear hK K
     refine' jV (v:=_) 3 hS0 (fun w hw=>?hA3) (fun K hK=>?kA3)
     case hA3=>(go_simp;try rfl)
     go_simp
     refine hK _ ?_
     clear hK K
     refine' jV (v:=_) 5 hS0 (fun w hw=>?hA5) (fun K hK=>?kA5)
     case hA5=>(go_simp;try rfl)
     go_simp
     refine hK _ ?_
     clear hK K
     refine' jV (v:=_) 6 hS0 (fun w hw=>?hA6) (fun K hK=>?kA6)
     case hA6=>(go_simp;try rfl)
     go_simp
     refine hK _ ?_
     clear hK K
     refine' jV (v:=_) 7 hS0 (fun w hw=>?hA7) (fun K hK=>?kA7)
     case hA7=>(go_simp;try rfl)
     go_simp
     refine hK _ ?_
     clear hK K
     refine' jV (v:=_) 8 hS0 (fun w hw=>?hA8) (fun K hK=>?kA8)
     case hA8=>(go_simp;try rfl)
     go_simp
     refine hK _ ?_
     clear hK K
     refine' jV (v:=_) 9 hS0 (fun w hw=>?hA9) (fun K hK=>?kA9)
     case hA9=>(go_simp;try rfl)
     go_simp
     refine hK _ ?_
     clear hK K
     refine' jV (v:=_) 10 hS0 (fun w hw=>?hA10) (fun K hK=>?kA10)
     case hA10=>(go_simp;try rfl)
     go_simp
     refine hK _ ?_
     clear hK K
     refine jO 4 (fun K hK=>?_)
     refine wp_enter 141 #[.slice xo (Ln R') xc,.slice yo (Ln (s*B)) yc] (by go_simp) ?_
     refine (HM.out _ hk0).mono ?_
     rintro e u1 ⟨z1,rfl,hd1,hk1,hn1⟩
     have HN:Hid (∀ g,z1.ownBlock=some g→g≠w4.heap.size):=fun g hg=>by have:=hn1 g hg;omega
     clear hn1
     have hk2:=hk0.trans0 hk1
     have hS0:=HSk.out _ hk2
     refine ⟨_,rfl,?_⟩
     refine hK _ _ hS0 ?_
     clear hK K
     refine' jV (v:=_) 11 hS0 (fun w hw=>?hA11) (fun K hK=>?kA11)
     case hA11=>(go_simp;try rfl)
     go_simp
     refine hK _ ?_
     clear hK K
     refine' jV (v:=_) 12 hS0 (fun w hw=>?hA12) (fun K hK=>?kA12)
     case hA12=>(go_simp;try rfl)
     go_simp
     refine hK _ ?_
     clear hK K
     refine ⟨by kernel_rfl,?_⟩
     simp only [List.drop_succ_cons,List.drop_zero]
     have hbu:=(HkV.out.trans0 hk2).heap Hb6.out (by simp)
     have Hbu:=jX hbu
     have hlu:=lt_of_heap hbu
     have hfu:=frozen_of hbu
     have Hku:=jX ((Hk6.out.trans0 HkV.out).trans0 hk2)
     have Hd1:=jX hd1
     have hrm:=dv_room HB0.out HRt.out HBd.out HsB.out
     have HkS:=jX (Hk.out.size)
     have hset:((u1.setCell ⟨w4.heap.size,i,none⟩ (.int .i64 ((t+s:Nat):Int))).heap[w4.heap.size]?)=some (.cells (ints ((mixd 256 n (i+1) (A / B) 0).set i (t+s))).toArray 3 (0,0)):=by
      rw [set_same Hbu.out,List.setIfInBounds_toArray,ints_set,List.set_set]
     have Hset:=jX hset
     clear hbu hd1 hk0 hk1 hk2 hset HM HSk
     go_wp2_with fail
     rw [show ((t:Int)+(s:Int))=((t+s:Nat):Int) by omega]
     go_roundw
     case rel =>
      refine ⟨t+s,R'-s*B,by omega,?_,?_,Hku.out.setPast _ _ _ HkS.out,Hset.out⟩
      ·have h1:=HRt.out
       have h2:=HsB.out
       rw [Nat.add_mul];omega
      exact Hd1.out.past (Keep.setCell _ _ _ _ _ (by simp)) HN.out
     case measure =>
      rw [qcell_of (set_icells Hset.out Hmx.out),Hq0.out]
      omega
    go_wp2_with fail
    have HSk:Hid (∀ W',Keep [] wr W'→W'.cell? ⟨w4.heap.size,i,none⟩=some (.int .i64 (t:Int))):=fun W' hk=>set_icells ((HkV.out.trans0 hk).heap Hb6.out (by simp)) Hmx.out
    have HM:Hid (∀ W',Keep [] wr W'→Calls Tryz.prog 141 #[.slice xo (Ln R') xc,.slice yo (Ln (s*B)) yc] W' (DigitsN W' (R'-s*B))):=fun W' hk =>
     minus_at W' _ _ R' (s*B) (HdR6.out.later (HkV.out.trans0 hk)) (HdpV.out.later hk) (by have:=HLR.out;omega) HsB.out
    have Hk6V:=jX (Hk6.out.trans0 HkV.out)
    refine wp_region_heldT (S:=fun W'=>W'.cell? ⟨w4.heap.size,i,none⟩=some (.int .i64 (t:Int))) 13 (by kernel_rfl) (by kernel_rfl) (fun _ _ d _ _ h=>by cases d<;>exact h) ?_
    have hk0:=Keep.drew [] wr
    have hS0:=HSk.out _ hk0
    have hb0:=lt_of_heap ((HkV.out.trans0 hk0).heap Hb6.out (by simp))
    generalize World.drew wr=u0 at *
    refine' jV (v:=_) 0 hS0 (fun w hw=>?hB0) (fun K hK=>?kB0)
    case hB0=>(go_simp;try rfl)
    go_simp
    refine hK _ ?_
    clear hK K
    refine' jV (v:=_) 1 hS0 (fun w hw=>?hB1) (fun K hK=>?kB1)
    case hB1=>(go_simp;try rfl)
    go_simp
    refine hK _ ?_
    clear hK K
    refine' jV (v:=_) 2 hS0 (fun w hw=>?hB2) (fun K hK=>?kB2)
    case hB2=>(go_simp;try rfl)
    go_simp
    refine hK _ ?_
    clear hK K
    refine' jV (v:=_) 3 hS0 (fun w hw=>?hB3) (fun K hK=>?kB3)
    case hB3=>(go_simp;try rfl)
    go_simp
    refine hK _ ?_
    clear hK K
    refine' jV (v:=_) 5 hS0 (fun w hw=>?hB5) (fun K hK=>?kB5)
    case hB5=>(go_simp;try rfl)
    go_simp
    refine hK _ ?_
    clear hK K
    refine' jV (v:=_) 6 hS0 (fun w hw=>?hB6) (fun K hK=>?kB6)
    case hB6=>(go_simp;try rfl)
    go_simp
    refine hK _ ?_
    clear hK K
    refine' jV (v:=_) 7 hS0 (fun w hw=>?hB7) (fun K hK=>?kB7)
    case hB7=>(go_simp;try rfl)
    go_simp
    refine hK _ ?_
    clear hK K
    refine' jV (v:=_) 8 hS0 (fun w hw=>?hB8) (fun K hK=>?kB8)
    case hB8=>(go_simp;try rfl)
    go_simp
    refine hK _ ?_
    clear hK K
    refine' jV (v:=_) 9 hS0 (fun w hw=>?hB9) (fun K hK=>?kB9)
    case hB9=>(go_simp;try rfl)
    go_simp
    refine hK _ ?_
    clear hK K
    refine' jV (v:=_) 10 hS0 (fun w hw=>?hB10) (fun K hK=>?kB10)
    case hB10=>(go_simp;try rfl)
    go_simp
    refine hK _ ?_
    clear hK K
    refine jO 4 (fun K hK=>?_)
    refine wp_enter 141 #[.slice xo (Ln R') xc,.slice yo (Ln (s*B)) yc] (by go_simp) ?_
    refine (HM.out _ hk0).mono ?_
    rintro e u1 ⟨z1,rfl,hd1,hk1,hn1⟩
    have HN:Hid (∀ g,z1.ownBlock=some g→g≠w4.heap.size):=fun g hg=>by have:=hn1 g hg;omega
    clear hn1
    have hk2:=hk0.trans0 hk1
    have hS0:=HSk.out _ hk2
    refine ⟨_,rfl,?_⟩
    refine hK _ _ hS0 ?_
    clear hK K
    refine' jV (v:=_) 11 hS0 (fun w hw=>?hB11) (fun K hK=>?kB11)
    case hB11=>(go_simp;try rfl)
    go_simp
    refine hK _ ?_
    clear hK K
    refine' jV (v:=_) 12 hS0 (fun w hw=>?hB12) (fun K hK=>?kB12)
    case hB12=>(go_simp;try rfl)
    go_simp
    refine hK _ ?_
    clear hK K
    refine ⟨by kernel_rfl,?_⟩
    simp only [List.drop_succ_cons,List.drop_zero]
    have hbu:=(HkV.out.trans0 hk2).heap Hb6.out (by simp)
    have Hbu:=jX hbu
    have hlu:=lt_of_heap hbu
    have hfu:=frozen_of hbu
    have Hku:=jX ((Hk6.out.trans0 HkV.out).trans0 hk2)
    have Hd1:=jX hd1
    have hrm:=dv_room HB0.out HRt.out HBd.out HsB.out
    have HkS:=jX (Hk.out.size)
    have hset:((u1.setCell ⟨w4.heap.size,i,none⟩ (.int .i64 ((t+s:Nat):Int))).heap[w4.heap.size]?)=some (.cells (ints ((mixd 256 n (i+1) (A / B) 0).set i (t+s))).toArray 3 (0,0)):=by
     rw [set_same Hbu.out,List.setIfInBounds_toArray,ints_set,List.set_set]
    have Hset:=jX hset
    clear hbu hd1 hk0 hk1 hk2 hset HM HSk
    go_wp2_with fail
    rw [show ((t:Int)+(s:Int))=((t+s:Nat):Int) by omega]
    go_roundw
    case rel =>
     refine ⟨t+s,R'-s*B,by omega,?_,?_,Hku.out.setPast _ _ _ HkS.out,Hset.out⟩
     ·have h1:=HRt.out
      have h2:=HsB.out
      rw [Nat.add_mul];omega
     exact Hd1.out.past (Keep.setCell _ _ _ _ _ (by simp)) HN.out
    case measure =>
     rw [qcell_of (set_icells Hset.out Hmx.out),Hq0.out]
     omega
theorem divide_c (w:World) (v1 v2:Value) (A B:Nat) (h1:DR w v1 A) (h2:DR w v2 B) (hA:Ln A≤100000000) (hB:Ln B≤100000000) (hB0:0<B) :
  Calls Tryz.prog 173 #[v1,v2] w (DivPost w A B):=by
 by_cases h:Ln A≤7∧Ln B≤7
 ·exact divide_s w v1 v2 A B h1 h2 h.1 h.2 hB0
 rcases Nat.lt_or_ge A B with hAB|hAB
 ·have:=Ln_mono (Nat.le_of_lt hAB)
  exact divide_l w v1 v2 A B h1 h2 (by omega) (by omega) (by omega) hAB
 have:=Ln_mono hAB
 exact divide_m w v1 v2 A B h1 h2 hA (by omega) hAB hB0
theorem row_unique {w:World} {v:Value} {xs ys:List Value} (h:RowR w v xs) (k:RowR w v ys):xs=ys:=by
 rcases h with ⟨rfl,rfl⟩|⟨g,o,c,rfl,hg,hc⟩
 ·rcases k with ⟨_,rfl⟩|⟨g,o,c,e,_⟩
  ·rfl
  cases e
 rcases k with ⟨e,_⟩|⟨g',o',c',e,_,hc'⟩
 ·cases e
 injection e with e1 e2 e3
 injection e1 with e1
 injection e1 with e1 e4
 subst e1 e4
 apply List.ext_getElem e2
 intro i h1 h2
 have a:=hc i _ (List.getElem?_eq_getElem h1)
 have b:=hc' i _ (List.getElem?_eq_getElem h2)
 rw [a] at b
 injection b
theorem ints_inj {a b:List Nat} (h:ints a=ints b):a=b:=by
 unfold ints at h
 induction a generalizing b with
 | nil=>cases b with
  | nil=>rfl
  | cons y b=>simp at h
 | cons x a ih=>cases b with
  | nil=>simp at h
  | cons y b =>
   simp only [List.map_cons,List.cons.injEq] at h
   have hxy:x=y:=by
    have:=h.1
    injection this with _ h2
    omega
   rw [hxy,ih h.2]
theorem dr_unique {w:World} {v:Value} {M N:Nat} (h:DR w v M) (k:DR w v N):M=N:=by
 have e:=ints_inj (row_unique h.1 k.1)
 rw [← val_digs (B:=256) (by decide) M,e,val_digs (by decide)]
open Classical in
noncomputable def numAt (w:World) (v:Value):Nat:=if h:∃ N,DR w v N then h.choose else 0
theorem numAt_of {w:World} {v:Value} {N:Nat} (h:DR w v N):numAt w v=N:=by
 have hx:∃ N,DR w v N:=⟨N,h⟩
 unfold numAt
 rw [dif_pos hx]
 exact dr_unique hx.choose_spec h
theorem Ln_zero:Ln 0=0:=by unfold Ln;rw [digs_zero];rfl
theorem Ln_pos {N:Nat} (h:0<N):0<Ln N:=by
 rcases Nat.eq_zero_or_pos (Ln N) with h0|h0
 ·have:=Ln_lt N
  rw [h0] at this
  omega
 exact h0
theorem common_c (w:World) (v1 v2:Value) (A B:Nat) (h1:DR w v1 A) (h2:DR w v2 B) (hA:Ln A≤100000000) (hB:Ln B≤100000000) :
  Calls Tryz.prog 172 #[v1,v2] w (Digits w (Nat.gcd A B)):=by
 have H1:=jX h1
 have H2:=jX h2
 have HA:=jX hA
 have HB:=jX hB
 clear h1 h2 hA hB
 go_enter Tryz.func172,Tryz.ntmps172
 go_wp2_with fail
 go_loopw [0,1] (fun a b wr=>∃ X Y:Nat,Nat.gcd X Y=Nat.gcd A B∧DR wr a X∧DR wr b Y∧Keep [] w wr∧Ln X≤100000000∧Ln Y≤100000000) (fun _ b wr=>numAt wr b)
 case atStart=>exact ⟨A,B,rfl,H1.out,H2.out,Keep.refl _ _,HA.out,HB.out⟩
 case round =>
  obtain⟨X,Y,hg,ha,hb,hk,hX,hY⟩:=hrel
  have Hg:=jX hg
  have Ha:=jX ha
  have Hb:=jX hb
  have Hk:=jX hk
  have Hm:=jX (numAt_of hb)
  obtain⟨ao,ac,rfl,_⟩:=ha.form
  obtain⟨bo,bc,rfl,_⟩:=hb.form
  clear hg ha hb hk
  by_cases hY0:Y=0
  ·subst hY0
   have hl:=Ln_zero
   rw [hl] at *
   have hz:(0:Int)<((0:Nat):Int)↔False:=by simp
   go_wp2_with fail
   go_ret
   exact ⟨_,rfl,by rw [← Hg.out,Nat.gcd_zero_right];exact Ha.out,Hk.out⟩
  have hp:=Ln_pos (show 0<Y by omega)
  have HD:=jX (divide_c wr _ _ X Y Ha.out Hb.out hX hY (by omega))
  have HY:=jX (show 0<Y by omega)
  have HXY:=jX (And.intro hX hY)
  obtain⟨m,hm⟩:∃ m,Ln Y=m:=⟨_,rfl⟩
  rw [hm] at hp hY HD Hb Hm ⊢
  have Hm2:=jX hm
  clear hY0 hm
  go_wp2_with fail
  refine HD.out.mono ?_
  rintro e w5 ⟨q,r,rfl,_,hr,hk5⟩
  have Hr:=jX hr
  have Hk5:=jX hk5
  clear HD hr hk5
  dsimp only
  go_wp2_with fail
  go_roundw
  case rel =>
   have h9:=Nat.mod_lt X HY.out
   refine ⟨Y,X % Y,?_,?_,Hr.out,Hk.out.trans0 Hk5.out,HXY.out.2,?_⟩
   ·rw [← Hg.out,Nat.gcd_comm X Y,Nat.gcd_comm Y (X % Y),← Nat.gcd_rec]
   ·exact Hb.out.later Hk5.out
   exact Nat.le_trans (Ln_mono (Nat.le_of_lt h9)) HXY.out.2
  case measure =>
   have h9:=Nat.mod_lt X HY.out
   rw [show numAt _ _=X % Y from numAt_of Hr.out,show numAt _ _=Y from Hm.out]
   exact h9
theorem Ln_mag (N:Nat):(magL N).length=Ln N:=by
 have h:∀ k,(magL N).length≤k↔Ln N≤k:=fun k=>by rw [Ln_le];exact magS_size N k
 have h1:=(h _).1 (Nat.le_refl _)
 have h2:=(h _).2 (Nat.le_refl _)
 omega
theorem full_mag (N:Nat):strOfNums (bnum (Ln N) N (Ln N))=magS N:=by
 have h:=trim_mag (Ln N) N (Ln_lt N)
 have hl:(strOfNums (bnum (Ln N) N (Ln N))).data.toList.length=Ln N:=by rw [strOfNums_data,List.length_map,bnum_length]
 have hs:=List.dropWhile_suffix (l:=(strOfNums (bnum (Ln N) N (Ln N))).data.toList) (· == 0)
 have e:=hs.eq_of_length (by rw [h,Ln_mag,hl])
 rw [h] at e
 unfold magS
 rw [e]
theorem whole_c (w:World) (v:Value) (neg:Bool) (N:Nat) (h:DR w v N) (hN:Ln N≤1000000000) :
  Calls Tryz.prog 166 #[v,.bool neg] w fun e w'=>e = .returned (.agg #[.bool (neg&&decide (0<N)),.string (magS N)])∧Keep [] w w':=by
 have H:=jX h
 obtain⟨vo,vc,rfl,_⟩:=h.form
 clear h
 have HN:=jX hN
 have hd0:decide (0<N)=decide (0<Ln N):=by
  by_cases h0:N=0
  ·subst h0;rw [Ln_zero]
  have:=Ln_pos (show 0<N by omega)
  have:0<N:=by omega
  simp [*]
 rw [hd0]
 have HF:=jX (full_mag N)
 go_enter Tryz.func166,Tryz.ntmps166
 go_wp2_with fail
 obtain⟨W,ga,hW,ega,Bga,hga,hgW,HkW⟩:=al1h w (.cells #[.bool false,.string ⟨#[]⟩] 32)
 rw [← hW]
 try rw [ega]
 clear hW ega
 obtain⟨pga,fga,lga⟩:=jQ Bga
 have HT:=jX (rtrim_c W (.slice vo (Ln N) vc) (digs 256 N) (by show Ln N≤_;omega) (H.out.later HkW.out).1 H.out.2)
 go_wp2_with fail
 refine HT.out.mono ?_
 rintro e w2 ⟨ht,hw2⟩
 subst hw2
 obtain⟨v',rfl,hdr⟩:=trimmed_dr ht (digs_lt (by decide) N)
 rw [val_digs (by decide)] at hdr
 have Hdr:=jX hdr
 obtain⟨ao,ac,rfl,_⟩:=hdr.form
 clear ht hdr HT hd0
 obtain⟨n,hn⟩:∃ n,Ln N=n:=⟨_,rfl⟩
 have Hca:Hid (∀ i,i<n→∃ g o,ao=some ⟨g,o,none⟩∧g<w2.heap.size∧w2.cell? ⟨g,o+i,none⟩=some (.int .i64 ((N / 256 ^ i % 256:Nat):Int))):=fun i hi=>Hdr.out.cell (by omega)
 rw [hn] at HF hN ⊢
 dsimp only
 have hmk:=make_bytes w2 n N (by omega)
 have HNn:=jX hn
 clear hn Hdr
 go_wp2_with fail
 clear hmk
 go_loopw [6] (fun x wr=>∃ i:Nat,i≤n∧x = .int .i64 (i:Int)∧wr=w2.alloc (.cells (brow n N i) 5)) (fun x _=>n-(intOf x).toNat)
 case atStart=>exact ⟨0,by omega,rfl,rfl⟩
 case round =>
  obtain⟨i,hi,rfl,rfl⟩:=hrel
  by_cases hlt:i<n
  ·obtain⟨g1,o1,rfl,hg1,c1⟩:=Hca.out i hlt
   have d9:=Nat.mod_lt (N / 256 ^ i) (show 0<256 by decide)
   have Hs:=jX (brow_set n N i hlt)
   have hg:=brow_get n N i hlt
   have e1:(((n:Int)-1-(i:Int)).toNat)=n-1-i:=by omega
   generalize N / 256 ^ i % 256=d at *
   have hd1:(d:Int) % 256=(d:Int):=by omega
   go_wp2_with fail
   go_roundw
   case rel=>exact ⟨i+1,by omega,by go_num,by rw [← Hs.out]⟩
   case measure=>simp [intOf];omega
  obtain rfl:i=n:=by omega
  have hbl:(bnum i N i).length=i:=bnum_length _ _ _
  have hconv:=run_convert_bytes_arg (P:=Tryz.prog) (w2.alloc (.cells (brow i N i) 5)) 188 5 Tryz.underlying188 Tryz.underlying5 w2.heap.size 0 i i (bnum i N i) hbl (fun j hj=>by
   rw [Nat.zero_add,World.cell?_alloc_at _ _ _ _ rfl]
   unfold brow
   rw [List.getElem?_toArray,List.getElem?_map,List.getD_eq_getElem?_getD,List.getElem?_eq_getElem (by omega)];rfl) 9 Tryz.underlying9
  rw [HF.out] at hconv
  by_cases hp:0<i
  ·have hpd:decide (0<i)=true:=by simpa using hp
   have HPD:=jX hpd
   cases neg
   ·go_wp2_with fail
    refine bodyPost_ret (v:=.agg #[.bool false,.string (magS N)]) ?_ rfl ⟨by rw [HNn.out,HPD.out];rfl,by repeat (first|(with_reducible exact HkW.out)|(refine Keep.setPast ?_ _ _ _ (by omega))|(refine Keep.allocPast ?_ _)|(refine Keep.drewPast ?_))⟩
    rw [results_cell1 rfl];go_simp
   go_wp2_with fail
   refine bodyPost_ret (v:=.agg #[.bool true,.string (magS N)]) ?_ rfl ⟨by rw [HNn.out,HPD.out];rfl,by repeat (first|(with_reducible exact HkW.out)|(refine Keep.setPast ?_ _ _ _ (by omega))|(refine Keep.allocPast ?_ _)|(refine Keep.drewPast ?_))⟩
   rw [results_cell1 rfl];go_simp
  have hpd:decide (0<i)=false:=by simpa using hp
  have HPD:=jX hpd
  cases neg
  ·go_wp2_with fail
   refine bodyPost_ret (v:=.agg #[.bool false,.string (magS N)]) ?_ rfl ⟨by rw [HNn.out,HPD.out];rfl,by repeat (first|(with_reducible exact HkW.out)|(refine Keep.setPast ?_ _ _ _ (by omega))|(refine Keep.allocPast ?_ _)|(refine Keep.drewPast ?_))⟩
   rw [results_cell1 rfl];go_simp
  go_wp2_with fail
  refine bodyPost_ret (v:=.agg #[.bool false,.string (magS N)]) ?_ rfl ⟨by rw [HNn.out,HPD.out];rfl,by repeat (first|(with_reducible exact HkW.out)|(refine Keep.setPast ?_ _ _ _ (by omega))|(refine Keep.allocPast ?_ _)|(refine Keep.drewPast ?_))⟩
  rw [results_cell1 rfl];go_simp
end Go.Proofs.YtejegogbhpmgfaaGreatDoor
