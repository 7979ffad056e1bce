/- Parts of a proof about this translation: Rm, Ro, Rp. -/
import Derived.Test.YtejegogbhpmgfaaGreatDoorC11
import Derived.Test.YtejegogbhpmgfaaGreatDoorC03
import Derived.Test.YtejegogbhpmgfaaGreatDoorC05
import Derived.Test.YtejegogbhpmgfaaGreatDoorC04
set_option linter.unusedVariables false
set_option linter.unusedSimpArgs false
set_option maxRecDepth 100000
set_option maxHeartbeats 8000000
namespace Go.Proofs.YtejegogbhpmgfaaGreatDoor
open Go.RowKit
def Ln (N:Nat):Nat:=(digs 256 N).length
theorem Ln_le {N k:Nat}:Ln N≤k↔N<256 ^ k:=digs_length (by decide) N k
theorem Ln_lt (N:Nat):N<256 ^ Ln N:=Ln_le.1 (Nat.le_refl _)
theorem Ln_mono {M N:Nat} (h:M≤N):Ln M≤Ln N:=Ln_le.2 (Nat.lt_of_le_of_lt h (Ln_lt N))
theorem Ln_add (M N:Nat):Ln (M+N)≤max (Ln M) (Ln N)+1:=by
 rw [Ln_le,Nat.pow_succ]
 have h1:=Nat.lt_of_lt_of_le (Ln_lt M) (Nat.pow_le_pow_right (n:=256) (by decide) (Nat.le_max_left (Ln M) (Ln N)))
 have h2:=Nat.lt_of_lt_of_le (Ln_lt N) (Nat.pow_le_pow_right (n:=256) (by decide) (Nat.le_max_right (Ln M) (Ln N)))
 omega
theorem Ln_mul (M N:Nat):Ln (M*N)≤Ln M+Ln N:=by
 rw [Ln_le,Nat.pow_add]
 exact Nat.mul_lt_mul'' (Ln_lt M) (Ln_lt N)
theorem Ln_high {N i:Nat} (h:¬ i<Ln N):N / 256 ^ i % 256=0:=by
 rw [Nat.div_eq_of_lt (Nat.lt_of_lt_of_le (Ln_lt N) (Nat.pow_le_pow_right (by decide) (by omega)))]
theorem Ln_get (N i:Nat) (h:i<(digs 256 N).length):(digs 256 N)[i]=N / 256 ^ i % 256:=by
 have:=val_digit (B:=256) (by decide) (digs 256 N) i h (digs_lt (by decide) N)
 rw [val_digs (by decide)] at this
 exact this.symm
theorem DR.form {w:World} {v:Value} {N:Nat} (h:DR w v N):∃ ao c,v = .slice ao (Ln N) c∧Ln N≤c:=by
 obtain⟨ao,c,e⟩:=h.1.form
 rw [ints_length] at e
 exact ⟨ao,c,e,h.2 _ _ _ e⟩
theorem DR.cell {w:World} {ao:Option Addr} {n c N:Nat} (h:DR w (.slice ao n c) N) {i:Nat} (hi:i<Ln N):∃ g o,ao=some ⟨g,o,none⟩∧g<w.heap.size∧w.cell? ⟨g,o+i,none⟩=some (.int .i64 ((N / 256 ^ i % 256:Nat):Int)):=by
 have hl:i<(digs 256 N).length:=hi
 rcases h.1 with ⟨h1,h2⟩|⟨g,o,c',h1,hg,hc⟩
 ·have:(digs 256 N).length=0:=by rw [← ints_length,h2];rfl
  omega
 injection h1 with h1 _ _
 exact ⟨g,o,h1,hg,by have:=hc i _ (ints_get _ i hl);rwa [Ln_get] at this⟩
theorem dl_snocd (B k S:Nat):dl B (k+1) S=dl B k S++[S / B ^ k % B]:=by
 unfold dl
 rw [List.range_succ,List.map_append];rfl
theorem carry_none {A B n m i:Nat} (hA:A<256 ^ n) (hB:B<256 ^ m) (hi:max n m+1≤i):carryA 256 i A B=0:=by
 have h1:=Nat.lt_of_lt_of_le hA (Nat.pow_le_pow_right (n:=256) (by decide) (Nat.le_max_left n m))
 have h2:=Nat.lt_of_lt_of_le hB (Nat.pow_le_pow_right (n:=256) (by decide) (Nat.le_max_right n m))
 have h3:256 ^ (max n m+1)≤256 ^ i:=Nat.pow_le_pow_right (by decide) hi
 rw [Nat.pow_succ] at h3
 unfold carryA
 rw [Nat.mod_eq_of_lt (by omega),Nat.mod_eq_of_lt (by omega)]
 exact Nat.div_eq_of_lt (by omega)
theorem carry_done {A B n m i:Nat} (hA:A<256 ^ n) (hB:B<256 ^ m) (hn:n≤i) (hm:m≤i) (h:carryA 256 i A B=0):A+B<256 ^ i:=by
 have h1:=Nat.lt_of_lt_of_le hA (Nat.pow_le_pow_right (n:=256) (by decide) hn)
 have h2:=Nat.lt_of_lt_of_le hB (Nat.pow_le_pow_right (n:=256) (by decide) hm)
 unfold carryA at h
 rw [Nat.mod_eq_of_lt h1,Nat.mod_eq_of_lt h2] at h
 rcases Nat.lt_or_ge (A+B) (256 ^ i) with h3|h3
 ·exact h3
 have:=Nat.div_pos h3 (Nat.pow_pos (n:=i) (show 0<256 by decide))
 omega
theorem plus_c (w:World) (v1 v2:Value) (A B:Nat) (h1:DR w v1 A) (h2:DR w v2 B) (hA:Ln A≤1000000000) (hB:Ln B≤1000000000) :
  Calls Tryz.prog 139 #[v1,v2] w (Digits w (A+B)):=by
 obtain⟨i0,hi,hz0,hz1,hz2⟩:=info_parts2 infoInt
 have Hi:=jX (And.intro hi (And.intro hz0 (And.intro hz1 hz2)))
 clear hi hz0 hz1 hz2
 obtain⟨ao,ac,rfl,_⟩:=h1.form
 obtain⟨bo,bc,rfl,_⟩:=h2.form
 obtain⟨n,hn⟩:∃ n,Ln A=n:=⟨_,rfl⟩
 obtain⟨m,hm⟩:∃ m,Ln B=m:=⟨_,rfl⟩
 have Hca:Hid (∀ w',Keep [] w w'→∀ i,i<n→∃ g o,ao=some ⟨g,o,none⟩∧g<w'.heap.size∧w'.cell? ⟨g,o+i,none⟩=some (.int .i64 ((A / 256 ^ i % 256:Nat):Int))):=fun w' hk i hi=>(h1.later hk).cell (by omega)
 have Hcb:Hid (∀ w',Keep [] w w'→∀ i,i<m→∃ g o,bo=some ⟨g,o,none⟩∧g<w'.heap.size∧w'.cell? ⟨g,o+i,none⟩=some (.int .i64 ((B / 256 ^ i % 256:Nat):Int))):=fun w' hk i hi=>(h2.later hk).cell (by omega)
 have Hza:Hid (∀ i,¬ i<n→A / 256 ^ i % 256=0):=fun i h=>Ln_high (by omega)
 have Hzb:Hid (∀ i,¬ i<m→B / 256 ^ i % 256=0):=fun i h=>Ln_high (by omega)
 have HLa:Hid (A<256 ^ n):=by rw [← hn];exact Ln_lt A
 have HLb:Hid (B<256 ^ m):=by rw [← hm];exact Ln_lt B
 rw [hn] at hA ⊢
 rw [hm] at hB ⊢
 clear h1 h2 hn hm
 go_enter Tryz.func139,Tryz.ntmps139
 go_wp2_with fail
 go_loopw [5,6,7] (fun b c x wr=>∃ i:Nat,i≤max n m+1∧x = .int .i64 (i:Int)∧c = .int .i64 (carryA 256 i A B:Nat)∧∃ l,l=dl 256 i (A+B)∧OI w wr b l) (fun _ _ x _=>max n m+2-(intOf x).toNat)
 case atStart=>exact ⟨0,by omega,rfl,by rw [carryA_zero];rfl,_,rfl,OI.nil _⟩
 case round =>
  obtain⟨i,hi,rfl,rfl,l,hl,hoi⟩:=hrel
  have Hrow:=jX hoi
  have hl9:l.length≤1000000001:=by rw [hl,dl_length];omega
  obtain⟨po,pc,rfl⟩:=hoi.form
  have Hl:=jX hl
  clear hl hoi
  by_cases ha:i<n
  ·obtain⟨g1,o1,rfl,hg1,c1⟩:=Hca.out wr Hrow.out.keep i ha
   have him:i<max n m:=by omega
   have x9:=Nat.mod_lt (A / 256 ^ i) (show 0<256 by decide)
   have y9:=Nat.mod_lt (B / 256 ^ i) (show 0<256 by decide)
   have Hnext:=jX (carryA_succ (show 0<256 by decide) i A B)
   have hdg:=carryA_digit (show 0<256 by decide) i A B
   have hsn:=dl_snocd 256 i (A+B)
   rw [← hdg] at hsn
   have Hsn:=jX hsn
   have hc1:=carryA_le (show 0<256 by decide) i A B
   clear hdg hsn
   by_cases hb:i<m
   ·obtain⟨g2,o2,rfl,hg2,c2⟩:=Hcb.out wr Hrow.out.keep i hb
    generalize A / 256 ^ i % 256=x at *
    generalize B / 256 ^ i % 256=y at *
    generalize carryA 256 i A B=c at *
    obtain⟨d,hd⟩:∃ d,(c+x+y) % 256=d:=⟨_,rfl⟩
    rw [hd] at Hsn
    have hd2:((c:Int)+x+y) % 256=(d:Int):=by omega
    have hd9:d≤255:=by omega
    clear hd
    go_wp2_with (at_builtin;refine wpList_append2 _ rfl _ _ 133 rfl 3 i0 _ 1 8 Tryz.underlying133 Hi.out.1 Hi.out.2.1 Hi.out.2.2.1 Hi.out.2.2.2 rfl (by decide) _ _ _ rfl (own_keep' Hrow.out.row (Keep.alloc [] _ _) (by simp)) ⟨wr.heap.size,0,none⟩ 1 1 [.int .i64 (d)] rfl rfl (one_news _ _ _) ?c2 (by decide) ?c3 ?c4 ?_)
    case c2=>first|(intro u hu;simp at hu;subst hu;rfl)|rfl
    case c3=>unfold maxLen;omega
    case c4=>omega
    intro g cap wa hoa hga hfa hda
    have Hn:=jX (Hrow.out.step (d:=d) hoa hga hfa hda)
    clear hoa hga hfa hda
    go_wp2_with fail
    go_roundw
    case rel=>exact ⟨i+1,by omega,by go_num,by rw [← Hnext.out];exact congrArg (Value.int .i64) (by omega),l++[d],by rw [Hsn.out,← Hl.out],Hn.out⟩
    case measure=>simp [intOf];omega
   have hy0:=Hzb.out i hb
   rw [hy0] at Hnext Hsn
   generalize A / 256 ^ i % 256=x at *
   generalize carryA 256 i A B=c at *
   obtain⟨d,hd⟩:∃ d,(c+x+0) % 256=d:=⟨_,rfl⟩
   rw [hd] at Hsn
   have hd2:((c:Int)+x) % 256=(d:Int):=by omega
   have hd9:d≤255:=by omega
   clear hd hy0 y9
   go_wp2_with (at_builtin;refine wpList_append2 _ rfl _ _ 133 rfl 3 i0 _ 1 8 Tryz.underlying133 Hi.out.1 Hi.out.2.1 Hi.out.2.2.1 Hi.out.2.2.2 rfl (by decide) _ _ _ rfl (own_keep' Hrow.out.row (Keep.alloc [] _ _) (by simp)) ⟨wr.heap.size,0,none⟩ 1 1 [.int .i64 (d)] rfl rfl (one_news _ _ _) ?c2 (by decide) ?c3 ?c4 ?_)
   case c2=>first|(intro u hu;simp at hu;subst hu;rfl)|rfl
   case c3=>unfold maxLen;omega
   case c4=>omega
   intro g cap wa hoa hga hfa hda
   have Hn:=jX (Hrow.out.step (d:=d) hoa hga hfa hda)
   clear hoa hga hfa hda
   go_wp2_with fail
   go_roundw
   case rel=>exact ⟨i+1,by omega,by go_num,by rw [← Hnext.out];exact congrArg (Value.int .i64) (by omega),l++[d],by rw [Hsn.out,← Hl.out],Hn.out⟩
   case measure=>simp [intOf];omega
  have hx0:=Hza.out i ha
  have y9:=Nat.mod_lt (B / 256 ^ i) (show 0<256 by decide)
  by_cases hb:i<m
  ·obtain⟨g2,o2,rfl,hg2,c2⟩:=Hcb.out wr Hrow.out.keep i hb
   have him:i<max n m:=by omega
   have Hnext:=jX (carryA_succ (show 0<256 by decide) i A B)
   have hdg:=carryA_digit (show 0<256 by decide) i A B
   have hsn:=dl_snocd 256 i (A+B)
   rw [← hdg] at hsn
   have Hsn:=jX hsn
   have hc1:=carryA_le (show 0<256 by decide) i A B
   clear hdg hsn
   rw [hx0] at Hnext Hsn
   generalize B / 256 ^ i % 256=y at *
   generalize carryA 256 i A B=c at *
   obtain⟨d,hd⟩:∃ d,(c+0+y) % 256=d:=⟨_,rfl⟩
   rw [hd] at Hsn
   have hd2:((c:Int)+y) % 256=(d:Int):=by omega
   have hd9:d≤255:=by omega
   clear hd hx0
   go_wp2_with (at_builtin;refine wpList_append2 _ rfl _ _ 133 rfl 3 i0 _ 1 8 Tryz.underlying133 Hi.out.1 Hi.out.2.1 Hi.out.2.2.1 Hi.out.2.2.2 rfl (by decide) _ _ _ rfl (own_keep' Hrow.out.row (Keep.alloc [] _ _) (by simp)) ⟨wr.heap.size,0,none⟩ 1 1 [.int .i64 (d)] rfl rfl (one_news _ _ _) ?c2 (by decide) ?c3 ?c4 ?_)
   case c2=>first|(intro u hu;simp at hu;subst hu;rfl)|rfl
   case c3=>unfold maxLen;omega
   case c4=>omega
   intro g cap wa hoa hga hfa hda
   have Hn:=jX (Hrow.out.step (d:=d) hoa hga hfa hda)
   clear hoa hga hfa hda
   go_wp2_with fail
   go_roundw
   case rel=>exact ⟨i+1,by omega,by go_num,by rw [← Hnext.out];exact congrArg (Value.int .i64) (by omega),l++[d],by rw [Hsn.out,← Hl.out],Hn.out⟩
   case measure=>simp [intOf];omega
  have hy0:=Hzb.out i hb
  by_cases hc:carryA 256 i A B=0
  ·have hS:=carry_done HLa.out HLb.out (by omega) (by omega) hc
   have HT:=jX (rtrim_c wr _ l (by omega) Hrow.out.read Hrow.out.cap)
   have HS:=jX hS
   rw [hc]
   clear hS hx0 hy0 hc y9
   go_wp2_with fail
   refine HT.out.mono ?_
   rintro e w2 ⟨ht,rfl⟩
   obtain⟨v,rfl,hdr⟩:=trimmed_dr ht (by rw [Hl.out];exact dl_lt (by decide) _ _)
   rw [Hl.out,val_dl (by decide) _ _ HS.out] at hdr
   have Hdr:=jX hdr
   clear ht hdr HT
   dsimp only
   go_wp2_with fail
   go_ret
   exact ⟨v,rfl,Hdr.out,Hrow.out.keep⟩
  have him:i≤max n m:=by
   rcases Nat.lt_or_ge (max n m) i with h|h
   ·exact absurd (carry_none HLa.out HLb.out h) hc
   exact h
  have Hnext:=jX (carryA_succ (show 0<256 by decide) i A B)
  have hdg:=carryA_digit (show 0<256 by decide) i A B
  have hsn:=dl_snocd 256 i (A+B)
  rw [← hdg] at hsn
  have Hsn:=jX hsn
  have hc1:=carryA_le (show 0<256 by decide) i A B
  clear hdg hsn
  rw [hx0,hy0] at Hnext Hsn
  have hcp:0<carryA 256 i A B:=by omega
  generalize carryA 256 i A B=c at *
  obtain⟨d,hd⟩:∃ d,(c+0+0) % 256=d:=⟨_,rfl⟩
  rw [hd] at Hsn
  have hd2:(c:Int) % 256=(d:Int):=by omega
  have hd9:d≤255:=by omega
  clear hd hx0 hy0 y9 hc
  go_wp2_with (at_builtin;refine wpList_append2 _ rfl _ _ 133 rfl 3 i0 _ 1 8 Tryz.underlying133 Hi.out.1 Hi.out.2.1 Hi.out.2.2.1 Hi.out.2.2.2 rfl (by decide) _ _ _ rfl (own_keep' Hrow.out.row (Keep.alloc [] _ _) (by simp)) ⟨wr.heap.size,0,none⟩ 1 1 [.int .i64 (d)] rfl rfl (one_news _ _ _) ?c2 (by decide) ?c3 ?c4 ?_)
  case c2=>first|(intro u hu;simp at hu;subst hu;rfl)|rfl
  case c3=>unfold maxLen;omega
  case c4=>omega
  intro g cap wa hoa hga hfa hda
  have Hn:=jX (Hrow.out.step (d:=d) hoa hga hfa hda)
  clear hoa hga hfa hda
  go_wp2_with fail
  go_roundw
  case rel=>exact ⟨i+1,by omega,by go_num,by rw [← Hnext.out];exact congrArg (Value.int .i64) (by omega),l++[d],by rw [Hsn.out,← Hl.out],Hn.out⟩
  case measure=>simp [intOf];omega
theorem minus_c (w:World) (v1 v2:Value) (A B:Nat) (h1:DR w v1 A) (h2:DR w v2 B) (hA:Ln A≤1000000000) (hBA:B≤A) :
  Calls Tryz.prog 141 #[v1,v2] w (Digits w (A-B)):=by
 obtain⟨i0,hi,hz0,hz1,hz2⟩:=info_parts2 infoInt
 have Hi:=jX (And.intro hi (And.intro hz0 (And.intro hz1 hz2)))
 clear hi hz0 hz1 hz2
 have hB:Ln B≤1000000000:=Nat.le_trans (Ln_mono hBA) hA
 obtain⟨ao,ac,rfl,_⟩:=h1.form
 obtain⟨bo,bc,rfl,_⟩:=h2.form
 obtain⟨n,hn⟩:∃ n,Ln A=n:=⟨_,rfl⟩
 obtain⟨m,hm⟩:∃ m,Ln B=m:=⟨_,rfl⟩
 have Hca:Hid (∀ w',Keep [] w w'→∀ i,i<n→∃ g o,ao=some ⟨g,o,none⟩∧g<w'.heap.size∧w'.cell? ⟨g,o+i,none⟩=some (.int .i64 ((A / 256 ^ i % 256:Nat):Int))):=fun w' hk i hi=>(h1.later hk).cell (by omega)
 have Hcb:Hid (∀ w',Keep [] w w'→∀ i,i<m→∃ g o,bo=some ⟨g,o,none⟩∧g<w'.heap.size∧w'.cell? ⟨g,o+i,none⟩=some (.int .i64 ((B / 256 ^ i % 256:Nat):Int))):=fun w' hk i hi=>(h2.later hk).cell (by omega)
 have Hzb:Hid (∀ i,¬ i<m→B / 256 ^ i % 256=0):=fun i h=>Ln_high (by omega)
 have HLa:Hid (A<256 ^ n):=by rw [← hn];exact Ln_lt A
 have HBA:=jX hBA
 rw [hn] at hA ⊢
 rw [hm] at hB ⊢
 clear h1 h2 hn hm hBA
 go_enter Tryz.func141,Tryz.ntmps141
 go_wp2_with fail
 go_loopw [5,6,7] (fun b c x wr=>∃ i:Nat,i≤n∧x = .int .i64 (i:Int)∧c = .int .i64 (carryS 256 i A B:Nat)∧∃ l,l=dl 256 i (A-B)∧OI w wr b l) (fun _ _ x _=>n-(intOf x).toNat)
 case atStart=>exact ⟨0,by omega,rfl,by rw [carryS_zero];rfl,_,rfl,OI.nil _⟩
 case round =>
  obtain⟨i,hi,rfl,rfl,l,hl,hoi⟩:=hrel
  have Hrow:=jX hoi
  have hl9:l.length≤1000000001:=by rw [hl,dl_length];omega
  obtain⟨po,pc,rfl⟩:=hoi.form
  have Hl:=jX hl
  clear hl hoi
  by_cases ha:i<n
  ·obtain⟨g1,o1,rfl,hg1,c1⟩:=Hca.out wr Hrow.out.keep i ha
   have x9:=Nat.mod_lt (A / 256 ^ i) (show 0<256 by decide)
   have y9:=Nat.mod_lt (B / 256 ^ i) (show 0<256 by decide)
   have d9:=Nat.mod_lt ((A-B) / 256 ^ i) (show 0<256 by decide)
   obtain⟨hs1,hs2⟩:=carryS_step (show 0<256 by decide) i A B HBA.out
   have Hsn:=jX (dl_snocd 256 i (A-B))
   have hc1:carryS 256 i A B≤1:=by unfold carryS;split<;>omega
   by_cases hb:i<m
   ·obtain⟨g2,o2,rfl,hg2,c2⟩:=Hcb.out wr Hrow.out.keep i hb
    generalize A / 256 ^ i % 256=x at *
    generalize B / 256 ^ i % 256=y at *
    generalize (A-B) / 256 ^ i % 256=d at *
    generalize carryS 256 i A B=c at *
    by_cases hbr:x<y+c
    ·obtain⟨e1,e2⟩:=hs1 hbr
     have He1:=jX e1
     have hbz:(x:Int)-c-y<0:=by omega
     have hd2:(x:Int)-c-y+256=d:=by omega
     clear hs1 hs2 e1 e2
     go_wp2_with (at_builtin;refine wpList_append2 _ rfl _ _ 133 rfl 3 i0 _ 1 8 Tryz.underlying133 Hi.out.1 Hi.out.2.1 Hi.out.2.2.1 Hi.out.2.2.2 rfl (by decide) _ _ _ rfl (own_keep' Hrow.out.row (Keep.alloc [] _ _) (by simp)) ⟨wr.heap.size,0,none⟩ 1 1 [.int .i64 (d)] rfl rfl (one_news _ _ _) ?c2 (by decide) ?c3 ?c4 ?_)
     case c2=>first|(intro u hu;simp at hu;subst hu;rfl)|rfl
     case c3=>unfold maxLen;omega
     case c4=>omega
     intro g cap wa hoa hga hfa hda
     have Hn:=jX (Hrow.out.step (d:=d) hoa hga hfa hda)
     clear hoa hga hfa hda
     go_wp2_with fail
     go_roundw
     case rel=>exact ⟨i+1,by omega,by go_num,by rw [He1.out];rfl,l++[d],by rw [Hsn.out,← Hl.out],Hn.out⟩
     case measure=>simp [intOf];omega
    obtain⟨e1,e2⟩:=hs2 hbr
    have He1:=jX e1
    have hbz:¬ (x:Int)-c-y<0:=by omega
    have hd2:(x:Int)-c-y=d:=by omega
    clear hs1 hs2 e1 e2
    go_wp2_with (at_builtin;refine wpList_append2 _ rfl _ _ 133 rfl 3 i0 _ 1 8 Tryz.underlying133 Hi.out.1 Hi.out.2.1 Hi.out.2.2.1 Hi.out.2.2.2 rfl (by decide) _ _ _ rfl (own_keep' Hrow.out.row (Keep.alloc [] _ _) (by simp)) ⟨wr.heap.size,0,none⟩ 1 1 [.int .i64 (d)] rfl rfl (one_news _ _ _) ?c2 (by decide) ?c3 ?c4 ?_)
    case c2=>first|(intro u hu;simp at hu;subst hu;rfl)|rfl
    case c3=>unfold maxLen;omega
    case c4=>omega
    intro g cap wa hoa hga hfa hda
    have Hn:=jX (Hrow.out.step (d:=d) hoa hga hfa hda)
    clear hoa hga hfa hda
    go_wp2_with fail
    go_roundw
    case rel=>exact ⟨i+1,by omega,by go_num,by rw [He1.out];rfl,l++[d],by rw [Hsn.out,← Hl.out],Hn.out⟩
    case measure=>simp [intOf];omega
   have hy0:=Hzb.out i hb
   rw [hy0] at hs1 hs2
   generalize A / 256 ^ i % 256=x at *
   generalize (A-B) / 256 ^ i % 256=d at *
   generalize carryS 256 i A B=c at *
   by_cases hbr:x<0+c
   ·obtain⟨e1,e2⟩:=hs1 hbr
    have He1:=jX e1
    have hbz:(x:Int)-c<0:=by omega
    have hd2:(x:Int)-c+256=d:=by omega
    clear hs1 hs2 e1 e2 hy0
    go_wp2_with (at_builtin;refine wpList_append2 _ rfl _ _ 133 rfl 3 i0 _ 1 8 Tryz.underlying133 Hi.out.1 Hi.out.2.1 Hi.out.2.2.1 Hi.out.2.2.2 rfl (by decide) _ _ _ rfl (own_keep' Hrow.out.row (Keep.alloc [] _ _) (by simp)) ⟨wr.heap.size,0,none⟩ 1 1 [.int .i64 (d)] rfl rfl (one_news _ _ _) ?c2 (by decide) ?c3 ?c4 ?_)
    case c2=>first|(intro u hu;simp at hu;subst hu;rfl)|rfl
    case c3=>unfold maxLen;omega
    case c4=>omega
    intro g cap wa hoa hga hfa hda
    have Hn:=jX (Hrow.out.step (d:=d) hoa hga hfa hda)
    clear hoa hga hfa hda
    go_wp2_with fail
    go_roundw
    case rel=>exact ⟨i+1,by omega,by go_num,by rw [He1.out];rfl,l++[d],by rw [Hsn.out,← Hl.out],Hn.out⟩
    case measure=>simp [intOf];omega
   obtain⟨e1,e2⟩:=hs2 hbr
   have He1:=jX e1
   have hbz:¬ (x:Int)-c<0:=by omega
   have hd2:(x:Int)-c=d:=by omega
   clear hs1 hs2 e1 e2 hy0
   go_wp2_with (at_builtin;refine wpList_append2 _ rfl _ _ 133 rfl 3 i0 _ 1 8 Tryz.underlying133 Hi.out.1 Hi.out.2.1 Hi.out.2.2.1 Hi.out.2.2.2 rfl (by decide) _ _ _ rfl (own_keep' Hrow.out.row (Keep.alloc [] _ _) (by simp)) ⟨wr.heap.size,0,none⟩ 1 1 [.int .i64 (d)] rfl rfl (one_news _ _ _) ?c2 (by decide) ?c3 ?c4 ?_)
   case c2=>first|(intro u hu;simp at hu;subst hu;rfl)|rfl
   case c3=>unfold maxLen;omega
   case c4=>omega
   intro g cap wa hoa hga hfa hda
   have Hn:=jX (Hrow.out.step (d:=d) hoa hga hfa hda)
   clear hoa hga hfa hda
   go_wp2_with fail
   go_roundw
   case rel=>exact ⟨i+1,by omega,by go_num,by rw [He1.out];rfl,l++[d],by rw [Hsn.out,← Hl.out],Hn.out⟩
   case measure=>simp [intOf];omega
  obtain rfl:i=n:=by omega
  have hS:A-B<256 ^ i:=Nat.lt_of_le_of_lt (Nat.sub_le _ _) HLa.out
  have HT:=jX (rtrim_c wr _ l (by omega) Hrow.out.read Hrow.out.cap)
  have HS:=jX hS
  clear hS
  go_wp2_with fail
  refine HT.out.mono ?_
  rintro e w2 ⟨ht,rfl⟩
  obtain⟨v,rfl,hdr⟩:=trimmed_dr ht (by rw [Hl.out];exact dl_lt (by decide) _ _)
  rw [Hl.out,val_dl (by decide) _ _ HS.out] at hdr
  have Hdr:=jX hdr
  clear ht hdr HT
  dsimp only
  go_wp2_with fail
  go_ret
  exact ⟨v,rfl,Hdr.out,Hrow.out.keep⟩
theorem up_lt {A B i:Nat} (h:A / 256 ^ (i+1)=B / 256 ^ (i+1)) (hx:A / 256 ^ i % 256<B / 256 ^ i % 256):A<B:=by
 have e:∀ N:Nat,N / 256 ^ i=256*(N / 256 ^ (i+1))+N / 256 ^ i % 256:=fun N=>by rw [Nat.pow_succ,← Nat.div_div_eq_div_mul,Nat.div_add_mod]
 have h1:A / 256 ^ i<B / 256 ^ i:=by rw [e A,e B,h];omega
 rcases Nat.lt_or_ge A B with h2|h2
 ·exact h2
 have:=Nat.div_le_div_right (c:=256 ^ i) h2
 omega
theorem up_eq {A B i:Nat} (h:A / 256 ^ (i+1)=B / 256 ^ (i+1)) (hx:A / 256 ^ i % 256=B / 256 ^ i % 256):A / 256 ^ i=B / 256 ^ i:=by
 have e:∀ N:Nat,N / 256 ^ i=256*(N / 256 ^ (i+1))+N / 256 ^ i % 256:=fun N=>by rw [Nat.pow_succ,← Nat.div_div_eq_div_mul,Nat.div_add_mod]
 rw [e A,e B,h,hx]
theorem cmpN_lt {a b:Nat} (h:a<b):Lib.compareInt (a:Int) b = -1:=by unfold Lib.compareInt;rw [if_pos (by omega)]
theorem cmpN_gt {a b:Nat} (h:b<a):Lib.compareInt (a:Int) b=1:=by unfold Lib.compareInt;rw [if_neg (by omega),if_pos (by omega)]
theorem rcompare_c (w:World) (v1 v2:Value) (A B:Nat) (h1:DR w v1 A) (h2:DR w v2 B) (hA:Ln A≤1000000000) (hB:Ln B≤1000000000) :
  Calls Tryz.prog 140 #[v1,v2] w fun e w'=>e = .returned (.int .i64 (Lib.compareInt A B))∧Keep [] w w':=by
 obtain⟨ao,ac,rfl,_⟩:=h1.form
 obtain⟨bo,bc,rfl,_⟩:=h2.form
 by_cases hlen:Ln A=Ln B
 ·obtain⟨n,hn⟩:∃ n,Ln A=n:=⟨_,rfl⟩
  have hm:Ln B=n:=by omega
  have Hca:Hid (∀ w',Keep [] w w'→∀ i,i<n→∃ g o,ao=some ⟨g,o,none⟩∧g<w'.heap.size∧w'.cell? ⟨g,o+i,none⟩=some (.int .i64 ((A / 256 ^ i % 256:Nat):Int))):=fun w' hk i hi=>(h1.later hk).cell (by omega)
  have Hcb:Hid (∀ w',Keep [] w w'→∀ i,i<n→∃ g o,bo=some ⟨g,o,none⟩∧g<w'.heap.size∧w'.cell? ⟨g,o+i,none⟩=some (.int .i64 ((B / 256 ^ i % 256:Nat):Int))):=fun w' hk i hi=>(h2.later hk).cell (by omega)
  have HLa:Hid (A<256 ^ n):=by rw [← hn];exact Ln_lt A
  have HLb:Hid (B<256 ^ n):=by rw [← hm];exact Ln_lt B
  rw [hn] at hA ⊢
  rw [hm] at hB ⊢
  clear h1 h2 hn hm hlen
  go_enter Tryz.func140,Tryz.ntmps140
  go_wp2_with fail
  go_loopw [5] (fun x wr=>∃ i:Nat,i≤n∧x = .int .i64 ((i:Int)-1)∧A / 256 ^ i=B / 256 ^ i∧Keep [] w wr) (fun x _=>(intOf x+1).toNat)
  case atStart=>exact ⟨n,Nat.le_refl _,rfl,by rw [Nat.div_eq_of_lt HLa.out,Nat.div_eq_of_lt HLb.out],Keep.refl _ _⟩
  case round =>
   obtain⟨j,hj,rfl,he,hk⟩:=hrel
   have He:=jX he
   have Hk:=jX hk
   clear he hk
   by_cases hj0:j=0
   ·subst hj0
    have hab:A=B:=by have:=He.out;simpa using this
    have e:Lib.compareInt (A:Int) B=0:=by unfold Lib.compareInt;rw [hab];simp
    have HC:=jX e
    clear hab e He
    go_wp2_with fail
    go_ret
    exact ⟨by rw [HC.out];rfl,Hk.out⟩
   obtain⟨i,rfl⟩:∃ i,j=i+1:=⟨j-1,by omega⟩
   rw [show (((i+1:Nat):Int)-1)=(i:Int) by omega]
   have hin:i<n:=by omega
   obtain⟨g1,o1,rfl,hg1,c1⟩:=Hca.out wr Hk.out i hin
   obtain⟨g2,o2,rfl,hg2,c2⟩:=Hcb.out wr Hk.out i hin
   have Hlt:=jX (fun h=>up_lt He.out h)
   have Hgt:=jX (fun h=>up_lt He.out.symm h)
   have Heq:=jX (fun h=>up_eq He.out h)
   have K1:∀ m:KW wr,(Wk wr m).cell? ⟨g1,o1+i,none⟩=some (.int .i64 ((A / 256 ^ i % 256:Nat):Int)):=fun m=>by
    obtain⟨g,o,h1,_,h3⟩:=Hca.out m.x (Hk.out.trans0 m.k) i hin
    injection h1 with h1;injection h1 with h1 h2 h4
    subst h1 h2;exact h3
   have K2:∀ m:KW wr,(Wk wr m).cell? ⟨g2,o2+i,none⟩=some (.int .i64 ((B / 256 ^ i % 256:Nat):Int)):=fun m=>by
    obtain⟨g,o,h1,_,h3⟩:=Hcb.out m.x (Hk.out.trans0 m.k) i hin
    injection h1 with h1;injection h1 with h1 h2 h4
    subst h1 h2;exact h3
   have x9:=Nat.mod_lt (A / 256 ^ i) (show 0<256 by decide)
   have y9:=Nat.mod_lt (B / 256 ^ i) (show 0<256 by decide)
   clear c1 c2 hj0
   generalize A / 256 ^ i % 256=x at *
   generalize B / 256 ^ i % 256=y at *
   by_cases hxy:x<y
   ·have HC:=jX (cmpN_lt (Hlt.out hxy))
    have t:decide ((x:Int)<(y:Int))=true:=by simpa using hxy
    go_wp2_with fail
    refine wp_region_keep (by kernel_rfl) (by kernel_rfl) ?_
    repeat (first
     | go_big_quiet_skip
     | (go_big_quiet_want;go_big_quiet_op;go_big_quiet_on))
    refine wpQuiet_nil ?_
    rintro wa ⟨⟨_,hk_wa⟩,rfl⟩
    have Hka:=jX (Hk.out.trans0 hk_wa)
    clear hk_wa K1 K2
    go_wp2_with fail
    go_ret
    exact ⟨by rw [HC.out];rfl,Hka.out⟩
   have t:decide ((x:Int)<(y:Int))=false:=by simpa using hxy
   by_cases hyx:y<x
   ·have HC:=jX (cmpN_gt (Hgt.out hyx))
    have t2:decide ((y:Int)<(x:Int))=true:=by simpa using hyx
    go_wp2_with fail
    refine wp_region_keep (by kernel_rfl) (by kernel_rfl) ?_
    repeat (first
     | go_big_quiet_skip
     | (go_big_quiet_want;go_big_quiet_op;go_big_quiet_on))
    refine wpQuiet_nil ?_
    rintro wa ⟨⟨_,hk_wa⟩,rfl⟩
    have hka:=hk_wa
    have K3:∀ m:KW wa,(Wk wa m).cell? ⟨g1,o1+i,none⟩=some (.int .i64 (x:Int)):=fun m=>K1 ⟨m.x,hka.trans0 m.k⟩
    have K4:∀ m:KW wa,(Wk wa m).cell? ⟨g2,o2+i,none⟩=some (.int .i64 (y:Int)):=fun m=>K2 ⟨m.x,hka.trans0 m.k⟩
    have Hka:=jX (Hk.out.trans0 hk_wa)
    have hs1:=hk_wa.size
    have hg3:g1<wa.heap.size:=by omega
    have hg4:g2<wa.heap.size:=by omega
    clear hk_wa K1 K2 hka
    go_wp2_with fail
    refine wp_region_keep (by kernel_rfl) (by kernel_rfl) ?_
    repeat (first
     | go_big_quiet_skip
     | (go_big_quiet_want;go_big_quiet_op;go_big_quiet_on))
    refine wpQuiet_nil ?_
    rintro wb ⟨⟨_,hk_wb⟩,rfl⟩
    have Hkb:=jX (Hka.out.trans0 hk_wb)
    clear hk_wb K3 K4
    go_wp2_with fail
    go_ret
    exact ⟨by rw [HC.out];rfl,Hkb.out⟩
   have t2:decide ((y:Int)<(x:Int))=false:=by simpa using hyx
   have Hup:=jX (Heq.out (by omega))
   go_wp2_with fail
   refine wp_region_keep (by kernel_rfl) (by kernel_rfl) ?_
   repeat (first
    | go_big_quiet_skip
    | (go_big_quiet_want;go_big_quiet_op;go_big_quiet_on))
   refine wpQuiet_nil ?_
   rintro wa ⟨⟨_,hk_wa⟩,rfl⟩
   have hka:=hk_wa
   have K3:∀ m:KW wa,(Wk wa m).cell? ⟨g1,o1+i,none⟩=some (.int .i64 (x:Int)):=fun m=>K1 ⟨m.x,hka.trans0 m.k⟩
   have K4:∀ m:KW wa,(Wk wa m).cell? ⟨g2,o2+i,none⟩=some (.int .i64 (y:Int)):=fun m=>K2 ⟨m.x,hka.trans0 m.k⟩
   have Hka:=jX (Hk.out.trans0 hk_wa)
   have hs1:=hk_wa.size
   have hg3:g1<wa.heap.size:=by omega
   have hg4:g2<wa.heap.size:=by omega
   clear hk_wa K1 K2 hka
   go_wp2_with fail
   refine wp_region_keep (by kernel_rfl) (by kernel_rfl) ?_
   repeat (first
    | go_big_quiet_skip
    | (go_big_quiet_want;go_big_quiet_op;go_big_quiet_on))
   refine wpQuiet_nil ?_
   rintro wb ⟨⟨_,hk_wb⟩,rfl⟩
   have Hkb:=jX (Hka.out.trans0 hk_wb)
   clear hk_wb K3 K4
   go_wp2_with fail
   go_roundw
   case rel=>exact ⟨i,by omega,rfl,Hup.out,Hkb.out⟩
   case measure=>simp [intOf]
 have hlt:Ln A<Ln B→A<B:=fun h=>by
  rcases Nat.lt_or_ge A B with h2|h2
  ·exact h2
  have:=Ln_mono h2;omega
 have hgt:Ln B<Ln A→B<A:=fun h=>by
  rcases Nat.lt_or_ge B A with h2|h2
  ·exact h2
  have:=Ln_mono h2;omega
 have hne:((Ln A:Int) != (Ln B:Int))=true:=by rw [bne_iff_ne];omega
 by_cases h:Ln A<Ln B
 ·rw [cmpN_lt (hlt h)]
  clear hlt hgt h1 h2 hlen
  generalize Ln A=n at *
  generalize Ln B=m at *
  go_enter Tryz.func140,Tryz.ntmps140
  go_wp2_with fail
  go_ret
  exact ⟨rfl,Keep.refl _ _⟩
 rw [cmpN_gt (hgt (by omega))]
 clear hlt hgt h1 h2 hlen
 generalize Ln A=n at *
 generalize Ln B=m at *
 go_enter Tryz.func140,Tryz.ntmps140
 go_wp2_with fail
 go_ret
 exact ⟨rfl,Keep.refl _ _⟩
theorem large_c (w:World) (N:Nat) (hN:N≤9223372036854775807) :
  Calls Tryz.prog 195 #[.int .i64 (N:Int)] w (Digits w N):=by
 obtain⟨i0,hi,hz0,hz1,hz2⟩:=info_parts2 infoInt
 have Hi:=jX (And.intro hi (And.intro hz0 (And.intro hz1 hz2)))
 clear hi hz0 hz1 hz2
 go_enter Tryz.func195,Tryz.ntmps195
 go_wp2_with fail
 go_loopw [0,3] (fun x b wr=>∃ k:Nat,k≤N∧x = .int .i64 (k:Int)∧∃ l,l++digs 256 k=digs 256 N∧l.length≤1000000000∧OI w wr b l) (fun x _ _=>(intOf x).toNat)
 case atStart=>exact ⟨N,Nat.le_refl _,rfl,[],rfl,by simp,OI.nil _⟩
 case round =>
  obtain⟨k,hk,rfl,l,hl,hl9,hoi⟩:=hrel
  have Hrow:=jX hoi
  obtain⟨po,pc,rfl⟩:=hoi.form
  have Hl:=jX hl
  clear hl hoi
  by_cases hk0:k=0
  ·subst hk0
   have hfin:l=digs 256 N:=by have:=Hl.out;rwa [digs_zero,List.append_nil] at this
   have HR:Hid (DR wr (.slice po l.length pc) N):=by
    refine ⟨?_,Hrow.out.cap⟩
    rw [← hfin];exact Hrow.out.read
   clear hfin
   go_wp2_with fail
   go_ret
   exact ⟨_,rfl,HR.out,Hrow.out.keep⟩
  have hkp:0<k:=by omega
  have hpos:=digs_pos (B:=256) (by decide) hkp
  have hl2:l.length<1000000000:=by
   have h1:l.length≤Ln N:=by
    have h2:(l++digs 256 k).length=(digs 256 N).length:=congrArg List.length Hl.out
    rw [List.length_append] at h2
    show _≤(digs 256 N).length
    omega
   have h3:Ln N≤8:=Ln_le.2 (by omega)
   omega
  have Hpos:=jX hpos
  obtain⟨d,hd⟩:∃ d,k % 256=d:=⟨_,rfl⟩
  rw [hd] at Hpos
  have hd2:(k:Int) % 256=(d:Int):=by omega
  have hd9:d≤255:=by omega
  clear hpos hd hl9
  go_wp2_with (at_builtin;refine wpList_append2 _ rfl _ _ 133 rfl 3 i0 _ 1 8 Tryz.underlying133 Hi.out.1 Hi.out.2.1 Hi.out.2.2.1 Hi.out.2.2.2 rfl (by decide) _ _ _ rfl (own_keep' Hrow.out.row (Keep.alloc [] _ _) (by simp)) ⟨wr.heap.size,0,none⟩ 1 1 [.int .i64 (d)] rfl rfl (one_news _ _ _) ?c2 (by decide) ?c3 ?c4 ?_)
  case c2=>first|(intro u hu;simp at hu;subst hu;rfl)|rfl
  case c3=>unfold maxLen;omega
  case c4=>omega
  intro g cap wa hoa hga hfa hda
  have Hn:=jX (Hrow.out.step (d:=d) hoa hga hfa hda)
  clear hoa hga hfa hda
  go_wp2_with fail
  go_roundw
  case rel=>exact ⟨k / 256,by omega,congrArg (Value.int .i64) (by omega),l++[d],by rw [List.append_assoc,List.singleton_append,← Hpos.out];exact Hl.out,by rw [List.length_append];simp;omega,Hn.out⟩
  case measure=>simp [intOf];omega
theorem small_no (w:World) (v:Value) (N:Nat) (h:DR w v N) (h7:7<Ln N) (h9:Ln N≤1000000000) :
  Calls Tryz.prog 194 #[v] w fun e w'=>e = .returned (.tuple #[.int .i64 0,.bool false])∧w'=w:=by
 obtain⟨ao,ac,rfl,_⟩:=h.form
 clear h
 generalize Ln N=n at *
 go_enter Tryz.func194,Tryz.ntmps194
 go_wp2_with fail
 go_ret2
 exact ⟨rfl,rfl⟩
theorem small_ok (w:World) (v:Value) (N:Nat) (h:DR w v N) (h7:Ln N≤7) :
  Calls Tryz.prog 194 #[v] w fun e w'=>e = .returned (.tuple #[.int .i64 (N:Int),.bool true])∧w'=w:=by
 obtain⟨ao,ac,rfl,_⟩:=h.form
 obtain⟨n,hn⟩:∃ n,Ln N=n:=⟨_,rfl⟩
 have Hca:Hid (∀ i,i<n→∃ g o,ao=some ⟨g,o,none⟩∧g<w.heap.size∧w.cell? ⟨g,o+i,none⟩=some (.int .i64 ((N / 256 ^ i % 256:Nat):Int))):=fun i hi=>h.cell (by omega)
 have HL:Hid (N<256 ^ n):=by rw [← hn];exact Ln_lt N
 rw [hn] at h7 ⊢
 clear h hn
 have hN:N<72057594037927936:=Nat.lt_of_lt_of_le HL.out (Nat.le_trans (Nat.pow_le_pow_right (by decide) h7) (by decide))
 go_enter Tryz.func194,Tryz.ntmps194
 go_wp2_with fail
 go_loop [4,5] (fun s x=>∃ j:Nat,j≤n∧x = .int .i64 ((j:Int)-1)∧s = .int .i64 ((N / 256 ^ j:Nat):Int)) (fun _ x=>(intOf x+1).toNat)
 case atStart=>exact ⟨n,Nat.le_refl _,rfl,by rw [Nat.div_eq_of_lt HL.out];rfl⟩
 case round =>
  obtain⟨j,hj,rfl,rfl⟩:=hrel
  by_cases hj0:j=0
  ·subst hj0
   rw [Nat.pow_zero,Nat.div_one]
   go_wp2_with fail
   go_ret2
   exact ⟨rfl,rfl⟩
  obtain⟨i,rfl⟩:∃ i,j=i+1:=⟨j-1,by omega⟩
  rw [show (((i+1:Nat):Int)-1)=(i:Int) by omega]
  obtain⟨g1,o1,rfl,hg1,c1⟩:=Hca.out i (by omega)
  have e:N / 256 ^ i=256*(N / 256 ^ (i+1))+N / 256 ^ i % 256:=by rw [Nat.pow_succ,← Nat.div_div_eq_div_mul,Nat.div_add_mod]
  have hle:=Nat.div_le_self N (256 ^ i)
  have hin:i<n:=by omega
  have He:=jX e
  have x9:=Nat.mod_lt (N / 256 ^ i) (show 0<256 by decide)
  have hb:N / 256 ^ (i+1)*256+N / 256 ^ i % 256<72057594037927936:=by omega
  clear e hle hj0
  generalize N / 256 ^ i % 256=x at *
  generalize N / 256 ^ (i+1)=t at *
  go_wp2_with fail
  go_round
  case rel=>exact ⟨i,by omega,rfl,by rw [He.out];exact congrArg (Value.int .i64) (by omega)⟩
  case measure=>simp [intOf]
end Go.Proofs.YtejegogbhpmgfaaGreatDoor
