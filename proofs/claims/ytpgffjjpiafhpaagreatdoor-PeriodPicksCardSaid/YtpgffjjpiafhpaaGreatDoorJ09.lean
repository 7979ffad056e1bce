/- Parts of a proof: Ro Rp Rr. -/
import Derived.Test.YtpgffjjpiafhpaaGreatDoorJ08
import Derived.Test.YtpgffjjpiafhpaaGreatDoorJ05
import Derived.Test.YtpgffjjpiafhpaaGreatDoorJ04
set_option linter.unusedVariables false
set_option linter.unusedSimpArgs false
set_option maxRecDepth 100000
set_option maxHeartbeats 8000000
namespace Go.Proofs.YtpgffjjpiafhpaaGreatDoor
open Go.RowKit Tryz
theorem minus_c (w:World) (v1 v2:Value) (A B:Nat) (h1:DR w v1 A) (h2:DR w v2 B) (hA:Ln A≤1000000000) (hBA:B≤A) :
  Calls prog 181 #[v1,v2] w (Digits w (A-B)):=by
 obtain⟨i0,hi,hz0,hz1,hz2⟩:=yaN infoInt;have Hi:=jX (And.intro hi (And.intro hz0 (And.intro hz1 hz2)));clear hi hz0 hz1 hz2;have hB:Ln B≤1000000000:=Nat.le_trans (Ln_mono hBA) hA;obtain⟨ao,ac,rfl,_⟩:=h1.form;obtain⟨bo,bc,rfl,_⟩:=h2.form;obtain⟨n,hn⟩:∃ n,Ln A=n:=⟨_,rfl⟩;obtain⟨m,hm⟩:∃ m,Ln B=m:=⟨_,rfl⟩;have Hca:Hid (∀ w',Keep [] w w'→∀ i,i<n→∃ g o,ao=some ⟨g,o,none⟩∧g<w'.heap.size∧w'.cell? ⟨g,o+i,none⟩=some (.int .i64 ((A / 256 ^ i % 256:Nat):Int))):=fun w' hk i hi=>(h1.later hk).cell (by omega);have Hcb:Hid (∀ w',Keep [] w w'→∀ i,i<m→∃ g o,bo=some ⟨g,o,none⟩∧g<w'.heap.size∧w'.cell? ⟨g,o+i,none⟩=some (.int .i64 ((B / 256 ^ i % 256:Nat):Int))):=fun w' hk i hi=>(h2.later hk).cell (by omega);have Hzb:Hid (∀ i,¬ i<m→B / 256 ^ i % 256=0):=fun i h=>Ln_high (by omega);have HLa:Hid (A<256 ^ n):=by rw [← hn];exact Ln_lt A
 have HBA:=jX hBA;rw [hn] at hA ⊢;rw [hm] at hB ⊢;clear h1 h2 hn hm hBA;go_enter func181,ntmps181
 go_wp2_with fail;go_loopw [5,6,7] (fun b c x wr=>∃ i:Nat,i≤n∧x = .int .i64 (i:Int)∧c = .int .i64 (yaB 256 i A B:Nat)∧∃ l,l=dl 256 i (A-B)∧OI w wr b l) (fun _ _ x _=>n-(intOf x).toNat)
 case atStart=>exact ⟨0,by omega,rfl,by rw [ydz];rfl,_,rfl,OI.nil _⟩
 case round =>
  obtain⟨i,hi,rfl,rfl,l,hl,hoi⟩:=hrel;have Hrow:=jX hoi;have hl9:l.length≤1000000001:=by rw [hl,yaO];omega
  obtain⟨po,pc,rfl⟩:=hoi.form;have Hl:=jX hl;clear hl hoi;by_cases ha:i<n
  ·obtain⟨g1,o1,rfl,hg1,c1⟩:=Hca.out wr Hrow.out.keep i ha
   have x9:=Nat.mod_lt (A / 256 ^ i) (show 0<256 by decide)
   have y9:=Nat.mod_lt (B / 256 ^ i) (show 0<256 by decide)
   have d9:=Nat.mod_lt ((A-B) / 256 ^ i) (show 0<256 by decide)
   obtain⟨hs1,hs2⟩:=ycE (show 0<256 by decide) i A B HBA.out
   have Hsn:=jX (ydD 256 i (A-B));have hc1:yaB 256 i A B≤1:=by unfold yaB;split<;>omega
   by_cases hb:i<m
   ·obtain⟨g2,o2,rfl,hg2,c2⟩:=Hcb.out wr Hrow.out.keep i hb
    generalize A / 256 ^ i % 256=x at *;generalize B / 256 ^ i % 256=y at *;generalize (A-B) / 256 ^ i % 256=d at *;generalize yaB 256 i A B=c at *;by_cases hbr:x<y+c
    ·obtain⟨e1,e2⟩:=hs1 hbr
     have He1:=jX e1;have hbz:(x:Int)-c-y<0:=by omega
     have hd2:(x:Int)-c-y+256=d:=by omega
     clear hs1 hs2 e1 e2;go_wp2_with (at_builtin;refine yan _ rfl _ _ 156 rfl 3 i0 _ 1 8 underlying156 Hi.out.1 Hi.out.2.1 Hi.out.2.2.1 Hi.out.2.2.2 rfl (by decide) _ _ _ rfl (yat Hrow.out.row (Keep.alloc [] _ _) (by simp)) ⟨wr.heap.size,0,none⟩ 1 1 [.int .i64 (d)] rfl rfl (yaP _ _ _) ?c2 (by decide) ?c3 ?c4 ?_)
     case c2=>first|(intro u hu;simp at hu;subst hu;rfl)|rfl
     case c3=>unfold maxLen;omega
     case c4=>omega
     intro g cap wa hoa hga hfa hda;have Hn:=jX (Hrow.out.step (d:=d) hoa hga hfa hda);clear hoa hga hfa hda;go_wp2_with fail;go_roundw
     case rel=>exact ⟨i+1,by omega,by go_num,by rw [He1.out];rfl,l++[d],by rw [Hsn.out,← Hl.out],Hn.out⟩
     case measure=>simp [intOf];omega
    obtain⟨e1,e2⟩:=hs2 hbr;have He1:=jX e1;have hbz:¬ (x:Int)-c-y<0:=by omega
    have hd2:(x:Int)-c-y=d:=by omega
    clear hs1 hs2 e1 e2;go_wp2_with (at_builtin;refine yan _ rfl _ _ 156 rfl 3 i0 _ 1 8 underlying156 Hi.out.1 Hi.out.2.1 Hi.out.2.2.1 Hi.out.2.2.2 rfl (by decide) _ _ _ rfl (yat Hrow.out.row (Keep.alloc [] _ _) (by simp)) ⟨wr.heap.size,0,none⟩ 1 1 [.int .i64 (d)] rfl rfl (yaP _ _ _) ?c2 (by decide) ?c3 ?c4 ?_)
    case c2=>first|(intro u hu;simp at hu;subst hu;rfl)|rfl
    case c3=>unfold maxLen;omega
    case c4=>omega
    intro g cap wa hoa hga hfa hda;have Hn:=jX (Hrow.out.step (d:=d) hoa hga hfa hda);clear hoa hga hfa hda;go_wp2_with fail;go_roundw
    case rel=>exact ⟨i+1,by omega,by go_num,by rw [He1.out];rfl,l++[d],by rw [Hsn.out,← Hl.out],Hn.out⟩
    case measure=>simp [intOf];omega
   have hy0:=Hzb.out i hb;rw [hy0] at hs1 hs2;generalize A / 256 ^ i % 256=x at *;generalize (A-B) / 256 ^ i % 256=d at *;generalize yaB 256 i A B=c at *;by_cases hbr:x<0+c
   ·obtain⟨e1,e2⟩:=hs1 hbr
    have He1:=jX e1;have hbz:(x:Int)-c<0:=by omega
    have hd2:(x:Int)-c+256=d:=by omega
    clear hs1 hs2 e1 e2 hy0;go_wp2_with (at_builtin;refine yan _ rfl _ _ 156 rfl 3 i0 _ 1 8 underlying156 Hi.out.1 Hi.out.2.1 Hi.out.2.2.1 Hi.out.2.2.2 rfl (by decide) _ _ _ rfl (yat Hrow.out.row (Keep.alloc [] _ _) (by simp)) ⟨wr.heap.size,0,none⟩ 1 1 [.int .i64 (d)] rfl rfl (yaP _ _ _) ?c2 (by decide) ?c3 ?c4 ?_)
    case c2=>first|(intro u hu;simp at hu;subst hu;rfl)|rfl
    case c3=>unfold maxLen;omega
    case c4=>omega
    intro g cap wa hoa hga hfa hda;have Hn:=jX (Hrow.out.step (d:=d) hoa hga hfa hda);clear hoa hga hfa hda;go_wp2_with fail;go_roundw
    case rel=>exact ⟨i+1,by omega,by go_num,by rw [He1.out];rfl,l++[d],by rw [Hsn.out,← Hl.out],Hn.out⟩
    case measure=>simp [intOf];omega
   obtain⟨e1,e2⟩:=hs2 hbr;have He1:=jX e1;have hbz:¬ (x:Int)-c<0:=by omega
   have hd2:(x:Int)-c=d:=by omega
   clear hs1 hs2 e1 e2 hy0;go_wp2_with (at_builtin;refine yan _ rfl _ _ 156 rfl 3 i0 _ 1 8 underlying156 Hi.out.1 Hi.out.2.1 Hi.out.2.2.1 Hi.out.2.2.2 rfl (by decide) _ _ _ rfl (yat Hrow.out.row (Keep.alloc [] _ _) (by simp)) ⟨wr.heap.size,0,none⟩ 1 1 [.int .i64 (d)] rfl rfl (yaP _ _ _) ?c2 (by decide) ?c3 ?c4 ?_)
   case c2=>first|(intro u hu;simp at hu;subst hu;rfl)|rfl
   case c3=>unfold maxLen;omega
   case c4=>omega
   intro g cap wa hoa hga hfa hda;have Hn:=jX (Hrow.out.step (d:=d) hoa hga hfa hda);clear hoa hga hfa hda;go_wp2_with fail;go_roundw
   case rel=>exact ⟨i+1,by omega,by go_num,by rw [He1.out];rfl,l++[d],by rw [Hsn.out,← Hl.out],Hn.out⟩
   case measure=>simp [intOf];omega
  obtain rfl:i=n:=by omega
  have hS:A-B<256 ^ i:=Nat.lt_of_le_of_lt (Nat.sub_le _ _) HLa.out;have HT:=jX (ydw wr _ l (by omega) Hrow.out.read Hrow.out.cap);have HS:=jX hS;clear hS;go_wp2_with fail;refine HT.out.mono ?_;rintro e w2 ⟨ht,rfl⟩;obtain⟨v,rfl,hdr⟩:=ybk ht (by rw [Hl.out];exact yjq (by decide) _ _);rw [Hl.out,yfl (by decide) _ _ HS.out] at hdr;have Hdr:=jX hdr;clear ht hdr HT;dsimp only;go_wp2_with fail;go_ret
  exact ⟨v,rfl,Hdr.out,Hrow.out.keep⟩
theorem up_lt {A B i:Nat} (h:A / 256 ^ (i+1)=B / 256 ^ (i+1)) (hx:A / 256 ^ i % 256<B / 256 ^ i % 256):A<B:=by
 have e:∀ N:Nat,N / 256 ^ i=256*(N / 256 ^ (i+1))+N / 256 ^ i % 256:=fun N=>by rw [Nat.pow_succ,← Nat.div_div_eq_div_mul,Nat.div_add_mod]
 have h1:A / 256 ^ i<B / 256 ^ i:=by rw [e A,e B,h];omega
 rcases Nat.lt_or_ge A B with h2|h2
 ·exact h2
 have:=Nat.div_le_div_right (c:=256 ^ i) h2;omega
theorem up_eq {A B i:Nat} (h:A / 256 ^ (i+1)=B / 256 ^ (i+1)) (hx:A / 256 ^ i % 256=B / 256 ^ i % 256):A / 256 ^ i=B / 256 ^ i:=by
 have e:∀ N:Nat,N / 256 ^ i=256*(N / 256 ^ (i+1))+N / 256 ^ i % 256:=fun N=>by rw [Nat.pow_succ,← Nat.div_div_eq_div_mul,Nat.div_add_mod]
 rw [e A,e B,h,hx]
theorem ygi {a b:Nat} (h:a<b):Lib.compareInt (a:Int) b = -1:=by unfold Lib.compareInt;rw [if_pos (by omega)]
theorem yhW {a b:Nat} (h:b<a):Lib.compareInt (a:Int) b=1:=by unfold Lib.compareInt;rw [if_neg (by omega),if_pos (by omega)]
theorem yaQ (w:World) (v1 v2:Value) (A B:Nat) (h1:DR w v1 A) (h2:DR w v2 B) (hA:Ln A≤1000000000) (hB:Ln B≤1000000000) :
  Calls prog 140 #[v1,v2] w fun e w'=>e = .returned (.int .i64 (Lib.compareInt A B))∧Keep [] w w':=by
 obtain⟨ao,ac,rfl,_⟩:=h1.form;obtain⟨bo,bc,rfl,_⟩:=h2.form;by_cases hlen:Ln A=Ln B
 ·obtain⟨n,hn⟩:∃ n,Ln A=n:=⟨_,rfl⟩
  have hm:Ln B=n:=by omega
  have Hca:Hid (∀ w',Keep [] w w'→∀ i,i<n→∃ g o,ao=some ⟨g,o,none⟩∧g<w'.heap.size∧w'.cell? ⟨g,o+i,none⟩=some (.int .i64 ((A / 256 ^ i % 256:Nat):Int))):=fun w' hk i hi=>(h1.later hk).cell (by omega);have Hcb:Hid (∀ w',Keep [] w w'→∀ i,i<n→∃ g o,bo=some ⟨g,o,none⟩∧g<w'.heap.size∧w'.cell? ⟨g,o+i,none⟩=some (.int .i64 ((B / 256 ^ i % 256:Nat):Int))):=fun w' hk i hi=>(h2.later hk).cell (by omega);have HLa:Hid (A<256 ^ n):=by rw [← hn];exact Ln_lt A
  have HLb:Hid (B<256 ^ n):=by rw [← hm];exact Ln_lt B
  rw [hn] at hA ⊢;rw [hm] at hB ⊢;clear h1 h2 hn hm hlen;go_enter func140,ntmps140
  go_wp2_with fail;go_loopw [5] (fun x wr=>∃ i:Nat,i≤n∧x = .int .i64 ((i:Int)-1)∧A / 256 ^ i=B / 256 ^ i∧Keep [] w wr) (fun x _=>(intOf x+1).toNat)
  case atStart=>exact ⟨n,Nat.le_refl _,rfl,by rw [Nat.div_eq_of_lt HLa.out,Nat.div_eq_of_lt HLb.out],Keep.refl _ _⟩
  case round =>
   obtain⟨j,hj,rfl,he,hk⟩:=hrel;have He:=jX he;have Hk:=jX hk;clear he hk;by_cases hj0:j=0
   ·subst hj0
    have hab:A=B:=by have:=He.out;simpa using this
    have e:Lib.compareInt (A:Int) B=0:=by unfold Lib.compareInt;rw [hab];simp
    have HC:=jX e;clear hab e He;go_wp2_with fail;go_ret
    exact ⟨by rw [HC.out];rfl,Hk.out⟩
   obtain⟨i,rfl⟩:∃ i,j=i+1:=⟨j-1,by omega⟩;rw [show (((i+1:Nat):Int)-1)=(i:Int) by omega]
   have hin:i<n:=by omega
   obtain⟨g1,o1,rfl,hg1,c1⟩:=Hca.out wr Hk.out i hin;obtain⟨g2,o2,rfl,hg2,c2⟩:=Hcb.out wr Hk.out i hin;have Hlt:=jX (fun h=>up_lt He.out h);have Hgt:=jX (fun h=>up_lt He.out.symm h);have Heq:=jX (fun h=>up_eq He.out h)
   have K1:∀ m:KW wr,(Wk wr m).cell? ⟨g1,o1+i,none⟩=some (.int .i64 ((A / 256 ^ i % 256:Nat):Int)):=fun m=>by
    obtain⟨g,o,h1,_,h3⟩:=Hca.out m.x (Hk.out.tz m.k) i hin;injection h1 with h1;injection h1 with h1 h2 h4;subst h1 h2;exact h3
   have K2:∀ m:KW wr,(Wk wr m).cell? ⟨g2,o2+i,none⟩=some (.int .i64 ((B / 256 ^ i % 256:Nat):Int)):=fun m=>by
    obtain⟨g,o,h1,_,h3⟩:=Hcb.out m.x (Hk.out.tz m.k) i hin;injection h1 with h1;injection h1 with h1 h2 h4;subst h1 h2;exact h3
   have x9:=Nat.mod_lt (A / 256 ^ i) (show 0<256 by decide)
   have y9:=Nat.mod_lt (B / 256 ^ i) (show 0<256 by decide)
   clear c1 c2 hj0;generalize A / 256 ^ i % 256=x at *;generalize B / 256 ^ i % 256=y at *;by_cases hxy:x<y
   ·have HC:=jX (ygi (Hlt.out hxy))
    have t:decide ((x:Int)<(y:Int))=true:=by simpa using hxy
    go_wp2_with fail;refine yad (by kernel_rfl) (by kernel_rfl) ?_
    repeat (first
     | go_big_quiet_skip
     | (go_big_quiet_want;go_big_quiet_op;go_big_quiet_on))
    refine wpQuiet_nil ?_;rintro wa ⟨⟨_,hk_wa⟩,rfl⟩;have Hka:=jX (Hk.out.tz hk_wa);clear hk_wa K1 K2;go_wp2_with fail;go_ret
    exact ⟨by rw [HC.out];rfl,Hka.out⟩
   have t:decide ((x:Int)<(y:Int))=false:=by simpa using hxy
   by_cases hyx:y<x
   ·have HC:=jX (yhW (Hgt.out hyx))
    have t2:decide ((y:Int)<(x:Int))=true:=by simpa using hyx
    go_wp2_with fail;refine yad (by kernel_rfl) (by kernel_rfl) ?_
    repeat (first
     | go_big_quiet_skip
     | (go_big_quiet_want;go_big_quiet_op;go_big_quiet_on))
    refine wpQuiet_nil ?_;rintro wa ⟨⟨_,hk_wa⟩,rfl⟩;have hka:=hk_wa;have K3:∀ m:KW wa,(Wk wa m).cell? ⟨g1,o1+i,none⟩=some (.int .i64 (x:Int)):=fun m=>K1 ⟨m.x,hka.tz m.k⟩;have K4:∀ m:KW wa,(Wk wa m).cell? ⟨g2,o2+i,none⟩=some (.int .i64 (y:Int)):=fun m=>K2 ⟨m.x,hka.tz m.k⟩;have Hka:=jX (Hk.out.tz hk_wa);have hs1:=hk_wa.size;have hg3:g1<wa.heap.size:=by omega
    have hg4:g2<wa.heap.size:=by omega
    clear hk_wa K1 K2 hka;go_wp2_with fail;refine yad (by kernel_rfl) (by kernel_rfl) ?_
    repeat (first
     | go_big_quiet_skip
     | (go_big_quiet_want;go_big_quiet_op;go_big_quiet_on))
    refine wpQuiet_nil ?_;rintro wb ⟨⟨_,hk_wb⟩,rfl⟩;have Hkb:=jX (Hka.out.tz hk_wb);clear hk_wb K3 K4;go_wp2_with fail;go_ret
    exact ⟨by rw [HC.out];rfl,Hkb.out⟩
   have t2:decide ((y:Int)<(x:Int))=false:=by simpa using hyx
   have Hup:=jX (Heq.out (by omega));go_wp2_with fail;refine yad (by kernel_rfl) (by kernel_rfl) ?_
   repeat (first
    | go_big_quiet_skip
    | (go_big_quiet_want;go_big_quiet_op;go_big_quiet_on))
   refine wpQuiet_nil ?_;rintro wa ⟨⟨_,hk_wa⟩,rfl⟩;have hka:=hk_wa;have K3:∀ m:KW wa,(Wk wa m).cell? ⟨g1,o1+i,none⟩=some (.int .i64 (x:Int)):=fun m=>K1 ⟨m.x,hka.tz m.k⟩;have K4:∀ m:KW wa,(Wk wa m).cell? ⟨g2,o2+i,none⟩=some (.int .i64 (y:Int)):=fun m=>K2 ⟨m.x,hka.tz m.k⟩;have Hka:=jX (Hk.out.tz hk_wa);have hs1:=hk_wa.size;have hg3:g1<wa.heap.size:=by omega
   have hg4:g2<wa.heap.size:=by omega
   clear hk_wa K1 K2 hka;go_wp2_with fail;refine yad (by kernel_rfl) (by kernel_rfl) ?_
   repeat (first
    | go_big_quiet_skip
    | (go_big_quiet_want;go_big_quiet_op;go_big_quiet_on))
   refine wpQuiet_nil ?_;rintro wb ⟨⟨_,hk_wb⟩,rfl⟩;have Hkb:=jX (Hka.out.tz hk_wb);clear hk_wb K3 K4;go_wp2_with fail;go_roundw
   case rel=>exact ⟨i,by omega,rfl,Hup.out,Hkb.out⟩
   case measure=>simp [intOf]
 have hlt:Ln A<Ln B→A<B:=fun h=>by
  rcases Nat.lt_or_ge A B with h2|h2
  ·exact h2
  have:=Ln_mono h2;omega
 have hgt:Ln B<Ln A→B<A:=fun h=>by
  rcases Nat.lt_or_ge B A with h2|h2
  ·exact h2
  have:=Ln_mono h2;omega
 have hne:((Ln A:Int) != (Ln B:Int))=true:=by rw [bne_iff_ne];omega
 by_cases h:Ln A<Ln B
 ·rw [ygi (hlt h)]
  clear hlt hgt h1 h2 hlen;generalize Ln A=n at *;generalize Ln B=m at *;go_enter func140,ntmps140
  go_wp2_with fail;go_ret
  exact ⟨rfl,Keep.refl _ _⟩
 rw [yhW (hgt (by omega))];clear hlt hgt h1 h2 hlen;generalize Ln A=n at *;generalize Ln B=m at *;go_enter func140,ntmps140
 go_wp2_with fail;go_ret
 exact ⟨rfl,Keep.refl _ _⟩
theorem large_c (w:World) (N:Nat) (hN:N≤9223372036854775807) :
  Calls prog 202 #[.int .i64 (N:Int)] w (Digits w N):=by
 obtain⟨i0,hi,hz0,hz1,hz2⟩:=yaN infoInt;have Hi:=jX (And.intro hi (And.intro hz0 (And.intro hz1 hz2)));clear hi hz0 hz1 hz2;go_enter func202,ntmps202
 go_wp2_with fail;go_loopw [0,3] (fun x b wr=>∃ k:Nat,k≤N∧x = .int .i64 (k:Int)∧∃ l,l++digs 256 k=digs 256 N∧l.length≤1000000000∧OI w wr b l) (fun x _ _=>(intOf x).toNat)
 case atStart=>exact ⟨N,Nat.le_refl _,rfl,[],rfl,by simp,OI.nil _⟩
 case round =>
  obtain⟨k,hk,rfl,l,hl,hl9,hoi⟩:=hrel;have Hrow:=jX hoi;obtain⟨po,pc,rfl⟩:=hoi.form;have Hl:=jX hl;clear hl hoi;by_cases hk0:k=0
  ·subst hk0
   have hfin:l=digs 256 N:=by have:=Hl.out;rwa [yaS,List.append_nil] at this
   have HR:Hid (DR wr (.slice po l.length pc) N):=by
    refine ⟨?_,Hrow.out.cap⟩;rw [← hfin];exact Hrow.out.read
   clear hfin;go_wp2_with fail;go_ret
   exact ⟨_,rfl,HR.out,Hrow.out.keep⟩
  have hkp:0<k:=by omega
  have hpos:=ybz (B:=256) (by decide) hkp
  have hl2:l.length<1000000000:=by
   have h1:l.length≤Ln N:=by
    have h2:(l++digs 256 k).length=(digs 256 N).length:=congrArg List.length Hl.out;rw [List.length_append] at h2;show _≤(digs 256 N).length
    omega
   have h3:Ln N≤8:=Ln_le.2 (by omega);omega
  have Hpos:=jX hpos;obtain⟨d,hd⟩:∃ d,k % 256=d:=⟨_,rfl⟩;rw [hd] at Hpos;have hd2:(k:Int) % 256=(d:Int):=by omega
  have hd9:d≤255:=by omega
  clear hpos hd hl9;go_wp2_with (at_builtin;refine yan _ rfl _ _ 156 rfl 3 i0 _ 1 8 underlying156 Hi.out.1 Hi.out.2.1 Hi.out.2.2.1 Hi.out.2.2.2 rfl (by decide) _ _ _ rfl (yat Hrow.out.row (Keep.alloc [] _ _) (by simp)) ⟨wr.heap.size,0,none⟩ 1 1 [.int .i64 (d)] rfl rfl (yaP _ _ _) ?c2 (by decide) ?c3 ?c4 ?_)
  case c2=>first|(intro u hu;simp at hu;subst hu;rfl)|rfl
  case c3=>unfold maxLen;omega
  case c4=>omega
  intro g cap wa hoa hga hfa hda;have Hn:=jX (Hrow.out.step (d:=d) hoa hga hfa hda);clear hoa hga hfa hda;go_wp2_with fail;go_roundw
  case rel=>exact ⟨k / 256,by omega,congrArg (Value.int .i64) (by omega),l++[d],by rw [List.append_assoc,List.singleton_append,← Hpos.out];exact Hl.out,by rw [List.length_append];simp;omega,Hn.out⟩
  case measure=>simp [intOf];omega
theorem small_no (w:World) (v:Value) (N:Nat) (h:DR w v N) (h7:7<Ln N) (h9:Ln N≤1000000000) :
  Calls prog 201 #[v] w fun e w'=>e = .returned (.tuple #[.int .i64 0,.bool false])∧w'=w:=by
 obtain⟨ao,ac,rfl,_⟩:=h.form;clear h;generalize Ln N=n at *;go_enter func201,ntmps201
 go_wp2_with fail;go_ret2
 exact ⟨rfl,rfl⟩
theorem ygg (w:World) (v:Value) (N:Nat) (h:DR w v N) (h7:Ln N≤7) :
  Calls prog 201 #[v] w fun e w'=>e = .returned (.tuple #[.int .i64 (N:Int),.bool true])∧w'=w:=by
 obtain⟨ao,ac,rfl,_⟩:=h.form;obtain⟨n,hn⟩:∃ n,Ln N=n:=⟨_,rfl⟩;have Hca:Hid (∀ i,i<n→∃ g o,ao=some ⟨g,o,none⟩∧g<w.heap.size∧w.cell? ⟨g,o+i,none⟩=some (.int .i64 ((N / 256 ^ i % 256:Nat):Int))):=fun i hi=>h.cell (by omega);have HL:Hid (N<256 ^ n):=by rw [← hn];exact Ln_lt N
 rw [hn] at h7 ⊢;clear h hn;have hN:N<72057594037927936:=Nat.lt_of_lt_of_le HL.out (Nat.le_trans (Nat.pow_le_pow_right (by decide) h7) (by decide));go_enter func201,ntmps201
 go_wp2_with fail;go_loop [4,5] (fun s x=>∃ j:Nat,j≤n∧x = .int .i64 ((j:Int)-1)∧s = .int .i64 ((N / 256 ^ j:Nat):Int)) (fun _ x=>(intOf x+1).toNat)
 case atStart=>exact ⟨n,Nat.le_refl _,rfl,by rw [Nat.div_eq_of_lt HL.out];rfl⟩
 case round =>
  obtain⟨j,hj,rfl,rfl⟩:=hrel;by_cases hj0:j=0
  ·subst hj0
   rw [Nat.pow_zero,Nat.div_one];go_wp2_with fail;go_ret2
   exact ⟨rfl,rfl⟩
  obtain⟨i,rfl⟩:∃ i,j=i+1:=⟨j-1,by omega⟩;rw [show (((i+1:Nat):Int)-1)=(i:Int) by omega]
  obtain⟨g1,o1,rfl,hg1,c1⟩:=Hca.out i (by omega);have e:N / 256 ^ i=256*(N / 256 ^ (i+1))+N / 256 ^ i % 256:=by rw [Nat.pow_succ,← Nat.div_div_eq_div_mul,Nat.div_add_mod]
  have hle:=Nat.div_le_self N (256 ^ i);have hin:i<n:=by omega
  have He:=jX e;have x9:=Nat.mod_lt (N / 256 ^ i) (show 0<256 by decide)
  have hb:N / 256 ^ (i+1)*256+N / 256 ^ i % 256<72057594037927936:=by omega
  clear e hle hj0;generalize N / 256 ^ i % 256=x at *;generalize N / 256 ^ (i+1)=t at *;go_wp2_with fail;go_round
  case rel=>exact ⟨i,by omega,rfl,by rw [He.out];exact congrArg (Value.int .i64) (by omega)⟩
  case measure=>simp [intOf]
theorem ints_set (l:List Nat) (i d:Nat):(ints l).set i (.int .i64 (d:Int))=ints (l.set i d):=by simp [ints,List.map_set]
theorem yeT {w:World} {b L i X S:Nat} (h:w.heap[b]? = some (.cells (ints (mixd 256 L i X S)).toArray 3 (0,0))) (hi:i<L):w.cell? ⟨b,i,none⟩=some (.int .i64 ((X / 256 ^ i % 256:Nat):Int)):=by
 rw [yab h];have:=yiu 256 L i X S hi;simp [ints,this]
theorem made_int (n:Nat):madeCells (Value.int .i64 0).cells n=(ints (List.replicate n 0)).toArray:=by
 unfold madeCells;apply Array.ext
 ·simp [ints]
 intro i h1 h2;simp [ints,Value.cells,Nat.mod_one]
theorem ygQ (w:World) (n:Nat) (hn:n≤10000000000000):(Instr.makeSlice 156 (.int .i64 (n:Int)) (.int .i64 (n:Int))).run prog w = .ok (.slice (some ⟨w.heap.size,0,none⟩) n n) (w.alloc (.cells (ints (List.replicate n 0)).toArray 3)):=by
 obtain⟨i0,hi,hz0,hz1,hz2⟩:=yaN infoInt;have hm:=run_make (P:=prog) w 156 3 i0 _ underlying156 hi hz0 .i64 .i64 (n:Int) (n:Int) (by omega) (by omega) (by rw [hz2];omega) (by omega);rw [Int.toNat_natCast,hz1,Nat.mul_one,made_int] at hm;exact hm
theorem yfD {w:World} {g L:Nat} {l:List Nat} {t:TypeId} (h:w.heap[g]? = some (.cells (ints l).toArray t (0,0))) (hL:l.length=L):RowR w (.slice (some ⟨g,0,none⟩) L L) (ints l):=by
 subst hL;refine .inr ⟨g,0,l.length,by rw [ybo],yaa h,fun i v hi=>?_⟩;rw [yab h,Nat.zero_add]
 simpa using hi
theorem ygE {g L:Nat}:CapOk (.slice (some ⟨g,0,none⟩) L L):=by
 intro a n c e;injection e with _ e2 e3;omega
theorem prod_done {i m k A B x:Nat} (hA:A<256 ^ (i+m)) (hB:B<256 ^ m) (hk:m≤k) (hc:yaw 256 k (A / 256 ^ i) x B=0):A<256 ^ (i+k)∧A+256 ^ i*(x*B)<256 ^ (i+k):=by
 have h1:256 ^ (i+m)≤256 ^ (i+k):=Nat.pow_le_pow_right (by decide) (by omega);refine ⟨by omega,?_⟩
 have h2:(A+256 ^ i*(x*B)) / 256 ^ (i+k)=0:=by
  rw [yay,yeA (by decide),yeP (by decide),hc];have h3:B / 256 ^ k=0:=Nat.div_eq_of_lt (Nat.lt_of_lt_of_le hB (Nat.pow_le_pow_right (by decide) hk));have h4:A / 256 ^ i / 256 ^ k=0:=by rw [← yay];exact Nat.div_eq_of_lt (by omega)
  rw [h3,h4];simp
 rcases Nat.lt_or_ge (A+256 ^ i*(x*B)) (256 ^ (i+k)) with h|h
 ·exact h
 have:=Nat.div_pos h (Nat.pow_pos (show 0<256 by decide))
 omega
theorem prod_zero {i m A B x:Nat} (hA:A<256 ^ (i+m)) (hB:B<256 ^ m) (hx:x<256):yaw 256 (m+1) (A / 256 ^ i) x B=0:=by
 have hU:A / 256 ^ i<256 ^ m:=by rw [Nat.div_lt_iff_lt_mul (Nat.pow_pos (by decide)),← Nat.pow_add,Nat.add_comm];exact hA
 unfold yaw;have h1:256 ^ m≤256 ^ (m+1):=Nat.pow_le_pow_right (by decide) (by omega);rw [Nat.mod_eq_of_lt (by omega),Nat.mod_eq_of_lt (by omega)];apply Nat.div_eq_of_lt;rw [Nat.pow_succ];have h2:x*B≤255*B:=Nat.mul_le_mul_right _ (by omega);omega
theorem yca (w:World) (v1 v2:Value) (X B:Nat) (h1:DR w v1 X) (h2:DR w v2 B) (hX:Ln X≤1000000000) (hB:Ln B≤1000000000) :
  Calls prog 141 #[v1,v2] w (Digits w (X*B)):=by
 obtain⟨ao,ac,rfl,_⟩:=h1.form;obtain⟨bo,bc,rfl,_⟩:=h2.form;obtain⟨n,hn⟩:∃ n,Ln X=n:=⟨_,rfl⟩;obtain⟨m,hm⟩:∃ m,Ln B=m:=⟨_,rfl⟩;have Hca:Hid (∀ w',Keep [] w w'→∀ i,i<n→∃ g o,ao=some ⟨g,o,none⟩∧g<w'.heap.size∧w'.cell? ⟨g,o+i,none⟩=some (.int .i64 ((X / 256 ^ i % 256:Nat):Int))):=fun w' hk i hi=>(h1.later hk).cell (by omega);have Hcb:Hid (∀ w',Keep [] w w'→∀ i,i<m→∃ g o,bo=some ⟨g,o,none⟩∧g<w'.heap.size∧w'.cell? ⟨g,o+i,none⟩=some (.int .i64 ((B / 256 ^ i % 256:Nat):Int))):=fun w' hk i hi=>(h2.later hk).cell (by omega);have Hzb:Hid (∀ i,¬ i<m→B / 256 ^ i % 256=0):=fun i h=>Ln_high (by omega);have HLx:Hid (X<256 ^ n):=by rw [← hn];exact Ln_lt X
 have HLb:Hid (B<256 ^ m):=by rw [← hm];exact Ln_lt B
 rw [hn] at hX ⊢;rw [hm] at hB ⊢;clear h1 h2 hn hm;obtain⟨L,hL⟩:∃ L,n+m+1=L:=⟨_,rfl⟩;have HL:=jX hL;have hL1:(n:Int)+m+1=(L:Int):=by omega
 have hmk:=ygQ w L (by omega)
 have hS:Hid (X*B<256 ^ L):=by
  have h1:X*B<256 ^ n*256 ^ m:=Nat.mul_lt_mul'' HLx.out HLb.out;rw [← Nat.pow_add] at h1;exact Nat.lt_of_lt_of_le h1 (Nat.pow_le_pow_right (by decide) (by omega))
 have hL9:L≤2000000001:=by omega
 clear hL;go_enter func141,ntmps141
 go_wp2_with fail;clear hmk hL1;go_loopw [6] (fun x wr=>∃ i:Nat,i≤n∧x = .int .i64 (i:Int)∧Keep [] w wr∧wr.heap[w.heap.size]? = some (.cells (ints (dl 256 L (X % 256 ^ i*B))).toArray 3 (0,0))) (fun x _=>n-(intOf x).toNat)
 case atStart=>exact ⟨0,by omega,rfl,Keep.alloc _ _ _,by rw [Nat.pow_zero,Nat.mod_one,Nat.zero_mul,ycX];exact World.alloc_heap_new w _⟩
 case round =>
  obtain⟨i,hi,rfl,hkp,hbx⟩:=hrel;obtain⟨wo,rfl⟩:∃ wo:World,wo=wr:=⟨_,rfl⟩;by_cases hlt:i<n
  ·have Hstep:=jX (yfV 256 i X B)
   have HA:=jX (yfa i X (show 0<256 by decide) HLb.out)
   have x9:=Nat.mod_lt (X / 256 ^ i) (show 0<256 by decide)
   have Hkp:=jX hkp;have Hbx:=jX hbx;have Hcx:Hid (∀ w',Keep [] w w'→∃ g o,ao=some ⟨g,o,none⟩∧g<w'.heap.size∧w'.cell? ⟨g,o+i,none⟩=some (.int .i64 ((X / 256 ^ i % 256:Nat):Int))):=fun w' hk=>Hca.out w' hk i hlt;clear hkp hbx;generalize X % 256 ^ i*B=A at *;generalize X / 256 ^ i % 256=x at *;go_wp2_with fail;go_loopw [7,8] (fun c kx wr=>∃ k:Nat,k≤m+1∧kx = .int .i64 (k:Int)∧c = .int .i64 (yaw 256 k (A / 256 ^ i) x B:Nat)∧Keep [] w wr∧wr.heap[w.heap.size]? = some (.cells (ints (mixd 256 L (i+k) A (A+256 ^ i*(x*B)))).toArray 3 (0,0))) (fun _ kx _=>m+2-(intOf kx).toNat)
   case atStart =>
    refine ⟨0,by omega,rfl,by rw [ycd];rfl,Hkp.out,?_⟩;rw [Nat.add_zero,ycv (by decide)];exact Hbx.out
   case round =>
    obtain⟨k,hk,rfl,rfl,hkw,hbw⟩:=hrel;have hc9:=ybh (show 0<256 by decide) k (A / 256 ^ i) x B x9
    by_cases hkm:k<m
    ·have hikL:i+k<L:=by have:=HL.out;omega
     have hco:=yeT hbw hikL;rw [yay] at hco;obtain⟨g1,o1,rfl,hg1,c1⟩:=Hcx.out wr hkw;obtain⟨g2,o2,rfl,hg2,c2⟩:=Hcb.out wr hkw k hkm;have hd:=ycR (show 0<256 by decide) i k A x B
     have hs:=ybH (show 0<256 by decide) k (A / 256 ^ i) x B
     have hset:=jX (yaV 256 L (i+k) A (A+256 ^ i*(x*B)) hikL);have o9:=Nat.mod_lt (A / 256 ^ i / 256 ^ k) (show 0<256 by decide)
     have y9:=Nat.mod_lt (B / 256 ^ k) (show 0<256 by decide)
     have K1:∀ q:KW wr,(Wk wr q).cell? ⟨g1,o1+i,none⟩=some (.int .i64 (x:Int)):=fun q=>by
      obtain⟨g,o,h1,_,h3⟩:=Hcx.out q.x (hkw.tz q.k);injection h1 with h1;injection h1 with h1 h2 h4;subst h1 h2;exact h3
     have K2:∀ q:KW wr,(Wk wr q).cell? ⟨g2,o2+k,none⟩=some (.int .i64 ((B / 256 ^ k % 256:Nat):Int)):=fun q=>by
      obtain⟨g,o,h1,_,h3⟩:=Hcb.out q.x (hkw.tz q.k) k hkm;injection h1 with h1;injection h1 with h1 h2 h4;subst h1 h2;exact h3
     have hob:=yaa hbw;have Hkw:=jX hkw;have Hbw:=jX hbw;clear hkw hbw c1 c2;generalize A / 256 ^ i / 256 ^ k % 256=o at *;generalize B / 256 ^ k % 256=y at *;generalize yaw 256 k (A / 256 ^ i) x B=c at *;obtain⟨G,hG⟩:∃ G,x*y=G:=⟨_,rfl⟩;have hG9:G≤255*255:=by rw [← hG];exact Nat.mul_le_mul (by omega) (by omega)
     have hG1:(x:Int)*(y:Int)=(G:Int):=by rw [← hG];push_cast;rfl
     have hG2:IntKind.i64.wrap (G:Int)=(G:Int):=by simp [IntKind.wrap,IntKind.bits,IntKind.signed];omega
     rw [hG] at hd hs;have Hd:=jX hd;have Hs:=jX hs;clear hG hd hs;go_wp2_with fail;refine yad (by kernel_rfl) (by kernel_rfl) ?_
     repeat (first
      | go_big_quiet_skip
      | (go_big_quiet_want;go_big_quiet_op;go_big_quiet_on))
     refine wpQuiet_nil ?_;rintro wa ⟨⟨_,hk_wa⟩,rfl⟩;have hba:=hk_wa.heap Hbw.out (by simp);have hla:=yaa hba;have hfa:=yae hba;have hca:wa.cell? ⟨w.heap.size,i+k,none⟩=some (.int .i64 (o:Int)):=by rw [yab hba,← yab Hbw.out];exact hco
     have Hba:=jX hba;have Hka:=jX (Hkw.out.tz hk_wa);clear hba hk_wa K1 K2 hG1 hG2 hco;go_wp2_with fail;go_roundw
     case rel =>
      refine ⟨k+1,by omega,by go_num,?_,Hka.out.sP _ _ _ (Nat.le_refl _),?_⟩
      ·rw [← Hs.out];exact congrArg (Value.int .i64) (by omega)
      have e:(((o:Int)+(c:Int)+(G:Int)) % 256)=(((c+o+G) % 256:Nat):Int):=by omega
      rw [set_same Hba.out,e,Hd.out,List.setIfInBounds_toArray,ints_set,hset.out];rfl
     case measure=>simp [intOf];omega
    by_cases hc0:yaw 256 k (A / 256 ^ i) x B=0
    ·obtain⟨p1,p2⟩:=prod_done HA.out HLb.out (by omega) hc0
     have htop:=yfO (L:=L) (show 0<256 by decide) p1 p2
     rw [htop,Hstep.out] at hbw;have Hkw:=jX hkw;have Hbw:=jX hbw;rw [hc0];clear hkw hbw p1 p2 htop hc0 hc9;go_wp2_with fail;go_roundw
     case rel=>exact ⟨i+1,by omega,by go_num,Hkw.out,Hbw.out⟩
     case measure=>simp [intOf];omega
    have hkm2:k=m:=by
     rcases Nat.lt_or_ge m k with h|h
     ·obtain rfl:k=m+1:=by omega
      exact absurd (prod_zero HA.out HLb.out x9) hc0
     omega
    have hikL:i+k<L:=by have:=HL.out;omega
    have hco:=yeT hbw hikL;rw [yay] at hco
    have ho0:A / 256 ^ i / 256 ^ k % 256=0:=by
     rw [← yay,Nat.div_eq_of_lt (by rw [hkm2];exact HA.out)]
    have hd:=ycR (show 0<256 by decide) i k A x B
    have hs:=ybH (show 0<256 by decide) k (A / 256 ^ i) x B
    have hset:=jX (yaV 256 L (i+k) A (A+256 ^ i*(x*B)) hikL);rw [ho0] at hco hd hs;rw [Hzb.out k hkm,Nat.mul_zero] at hd hs;simp only [Nat.add_zero] at hd hs;have hob:=yaa hbw;have hof:=yae hbw;have hcp:0<yaw 256 k (A / 256 ^ i) x B:=by omega
    have Hd:=jX hd;have Hs:=jX hs;have Hkw:=jX hkw;have Hbw:=jX hbw;have Hkm2:=jX hkm2;clear hkw hbw hd hs ho0 hc0 hkm2;generalize yaw 256 k (A / 256 ^ i) x B=c at *;go_wp2_with fail;go_roundw
    case rel =>
     refine ⟨k+1,by have:=Hkm2.out;omega,by go_num,?_,Hkw.out.sP _ _ _ (Nat.le_refl _),?_⟩
     ·rw [← Hs.out];exact congrArg (Value.int .i64) (by omega)
     have e:((c:Int) % 256)=((c % 256:Nat):Int):=by omega
     rw [set_same Hbw.out,e,Hd.out,List.setIfInBounds_toArray,ints_set,hset.out];rfl
    case measure=>have:=Hkm2.out;simp [intOf];omega
  obtain rfl:i=n:=by omega
  rw [Nat.mod_eq_of_lt HLx.out] at hbx;have HT:=jX (ydw wo _ (dl 256 L (X*B)) (by rw [yaO];omega) (yfD hbx (yaO _ _ _)) ygE);have Hkp:=jX hkp;clear hkp hbx;go_wp2_with fail;refine HT.out.mono ?_;rintro e w2 ⟨ht,rfl⟩;obtain⟨v,rfl,hdr⟩:=ybk ht (yjq (by decide) _ _);rw [yfl (by decide) _ _ hS.out] at hdr;have Hdr:=jX hdr;clear ht hdr HT;dsimp only;go_wp2_with fail;go_ret
  exact ⟨v,rfl,Hdr.out,Hkp.out⟩
end Go.Proofs.YtpgffjjpiafhpaaGreatDoor
