/- Parts of a proof: Ru Rw Rx Ry. -/
import Derived.Test.YtpgffjjpiafhpaaGreatDoorJ02
import Derived.Test.YtpgffjjpiafhpaaGreatDoorJ11
set_option linter.unusedVariables false
set_option linter.unusedSimpArgs false
set_option maxRecDepth 100000
set_option maxHeartbeats 8000000
namespace Go.Proofs.YtpgffjjpiafhpaaGreatDoor
open Go.RowKit Tryz
theorem cmpN_ge {a b:Nat} (h:b≤a):¬ Lib.compareInt (a:Int) b<0:=by unfold Lib.compareInt;split<;>(try split)<;>omega
theorem cmpN_le {a b:Nat} (h:a≤b):Lib.compareInt (a:Int) b≤0:=by unfold Lib.compareInt;split<;>(try split)<;>omega
theorem yeW (w:World) (v:Value):(w.alloc (.cells #[v] 3)).ownsRow 0 3 1 (.slice (some ⟨w.heap.size,0,none⟩) 1 1) 1 [v]:=by
 refine ⟨rfl,.inr ⟨w.heap.size,1,#[v],rfl,Nat.zero_le _,World.alloc_heap_new w _,Nat.le_refl _,by simp [maxLen],rfl,rfl⟩⟩
def qcell (w:World) (g i:Nat):Nat:=match w.cell? ⟨g,i,none⟩ with|some v=>(intOf v).toNat | none=>0
theorem yfZ {w:World} {g i t:Nat} (h:w.cell? ⟨g,i,none⟩=some (.int .i64 (t:Int))):qcell w g i=t:=by
 unfold qcell;rw [h];simp [intOf]
theorem ybW {w:World} {b i t:Nat} {l:List Nat} (h:w.heap[b]? = some (.cells (ints (l.set i t)).toArray 3 (0,0))) (hi:i<l.length):w.cell? ⟨b,i,none⟩=some (.int .i64 (t:Int)):=by
 rw [yab h];simp [ints,hi]
theorem divide_m (w:World) (v1 v2:Value) (A B:Nat) (h1:DR w v1 A) (h2:DR w v2 B) (hA:Ln A≤100000000) (hA7:7<Ln A) (hBA:B≤A) (hB0:0<B) :
  Calls prog 178 #[v1,v2] w (DivPost w A B):=by
 obtain⟨i0,hi,hz0,hz1,hz2⟩:=yaN infoInt;have Hi:=jX (And.intro hi (And.intro hz0 (And.intro hz1 hz2)));clear hi hz0 hz1 hz2;have hB:Ln B≤100000000:=Nat.le_trans (Ln_mono hBA) hA;have HS1:=jX (ydY w v1 A h1 (by omega));have HS2:=jX (ydY w v2 B h2 (by omega));have HC:=jX (yaQ w v1 v2 A B h1 h2 (by omega) (by omega));have hcn:=cmpN_ge hBA;generalize Lib.compareInt (A:Int) B=c at *;have H1:=jX h1;have H2:=jX h2;obtain⟨ao,ac,rfl,_⟩:=h1.form;obtain⟨bo,bc,rfl,_⟩:=h2.form;have HA7:=jX hA7;obtain⟨n,hn⟩:∃ n,Ln A=n:=⟨_,rfl⟩;obtain⟨m,hm⟩:∃ m,Ln B=m:=⟨_,rfl⟩;have Hca:Hid (∀ w',Keep [] w w'→∀ i,i<n→∃ g o,ao=some ⟨g,o,none⟩∧g<w'.heap.size∧w'.cell? ⟨g,o+i,none⟩=some (.int .i64 ((A / 256 ^ i % 256:Nat):Int))):=fun w' hk i hi=>(h1.later hk).cell (by omega);have HLa:Hid (A<256 ^ n):=by rw [← hn];exact Ln_lt A
 have HLb:Hid (Ln B≤100000000):=hB;rw [hn] at hA HS1 HC H1 HA7 ⊢;rw [hm] at hB HS2 HC H2 ⊢;have HB0:=jX hB0;have HQn:Hid (A / B<256 ^ n):=Nat.lt_of_le_of_lt (Nat.div_le_self _ _) HLa.out;clear h1 h2 hA7 hBA hn hm hB0;go_enter func178,ntmps178
 go_wp2_with fail;refine HS1.out.mono ?_;rintro e w2 ⟨y1,f1,rfl,rfl,hf1⟩;obtain rfl:=hf1 HA7.out;dsimp only;clear HS1 hf1;go_wp2_with fail;refine HS2.out.mono ?_;rintro e w3 ⟨y2,f2,rfl,rfl,_⟩;dsimp only;clear HS2;go_wp2_with fail;refine HC.out.mono ?_;rintro e w4 ⟨rfl,hk⟩;have Hk:=jX hk;clear hk HC;dsimp only;have hmk:=ygQ w4 n (by omega);go_wp2_with fail;go_loopw [5,10] (fun r x wr=>∃ j:Nat,j≤n∧x = .int .i64 ((j:Int)-1)∧DR wr r (A / 256 ^ j % B)∧Keep [] w3 wr∧wr.heap[w4.heap.size]? = some (.cells (ints (mixd 256 n j (A / B) 0)).toArray 3 (0,0))) (fun _ x _=>(intOf x+1).toNat)
 case atStart=>exact ⟨n,Nat.le_refl _,rfl,by rw [Nat.div_eq_of_lt HLa.out,Nat.zero_mod];exact yiz _,Hk.out.tz (Keep.alloc _ _ _),by rw [ybA,ycX];exact World.alloc_heap_new w4 _⟩
 case round =>
  obtain⟨j,hj,rfl,hr,hkp,hbx⟩:=hrel;obtain⟨wo,rfl⟩:∃ wo:World,wo=wr:=⟨_,rfl⟩;have Hr:=jX hr;have Hkp:=jX hkp;have Hbx:=jX hbx;obtain⟨ro,rc,rfl,_⟩:=hr.form;clear hr hkp hbx hmk hcn;by_cases hj0:j=0
  ·subst hj0
   have hr0:A / 256 ^ 0 % B=A % B:=by rw [Nat.pow_zero,Nat.div_one]
   have HT:=jX (ydw wo _ (dl 256 n (A / B)) (by rw [yaO];omega) (yfD (by rw [← yby 256 n (A / B) 0];exact Hbx.out) (yaO _ _ _)) ygE);go_wp2_with fail;refine HT.out.mono ?_;rintro e w5 ⟨ht,rfl⟩;obtain⟨v,rfl,hdr⟩:=ybk ht (yjq (by decide) _ _);rw [yfl (by decide) _ _ HQn.out] at hdr;have Hdr:=jX hdr;clear ht hdr HT;dsimp only;go_wp2_with fail;go_ret2
   exact ⟨_,_,rfl,Hdr.out,by rw [← hr0];exact Hr.out,Hkp.out⟩
  obtain⟨i,rfl⟩:∃ i,j=i+1:=⟨j-1,by omega⟩;rw [show (((i+1:Nat):Int)-1)=(i:Int) by omega]
  have hin:i<n:=by omega
  obtain⟨g1,o1,rfl,hg1,c1⟩:=Hca.out wo Hkp.out i hin;have d9:=Nat.mod_lt (A / 256 ^ i) (show 0<256 by decide)
  have HR:=jX (@dv_rem A B i HB0.out);have HQ:=jX (@dv_quo A B i HB0.out);have HBd:=jX (@dv_bound A B i HB0.out);have hRB:A / 256 ^ (i+1) % B<B:=Nat.mod_lt _ HB0.out;have HLr:Hid (Ln (A / 256 ^ (i+1) % B)≤100000000):=Nat.le_trans (Ln_mono (Nat.le_of_lt hRB)) HLb.out;clear hRB hj0;generalize A / 256 ^ (i+1) % B=R at *;generalize A / 256 ^ i % 256=d at *;obtain⟨q,hq⟩:∃ q,Ln R=q:=⟨_,rfl⟩;have hlq:(ints (digs 256 R)).length=q:=by rw [ybo];exact hq
  have hq9:q≤100000000:=by rw [← hq];exact HLr.out
  rw [hq] at Hr ⊢;go_wp2_with (at_builtin;refine ydM _ rfl _ _ 156 rfl 3 i0 _ 8 underlying156 Hi.out.1 Hi.out.2.1 Hi.out.2.2.1 Hi.out.2.2.2 rfl _ 1 [.int .i64 (d:Int)] rfl (yeW _ _) (by decide) _ (ints (digs 256 R)) rfl (Hr.out.1.keep0 (Keep.alloc _ _ _)) (ints_one _) ?c3 ?c4 ?_)
  case c3=>rw [hlq];unfold maxLen;omega
  case c4=>rw [hlq];omega
  intro v' wa hoa hga hda;try rw [hlq] at hoa
  have hka:Keep [] wo wa:=(Keep.alloc _ _ _).grownPast hga hda (fun k hk=>by simp [Value.ownBlock] at hk;omega);have Hoa:=jX hoa;have Hka:=jX hka;obtain⟨po,pc,rfl⟩:=ydS hoa;have hrow:RowR wa (.slice po (1+q) pc) (ints (d :: digs 256 R)):=RowR.of_own hoa;have HT:=jX (ydw wa _ (d :: digs 256 R) (by rw [List.length_cons];have:(digs 256 R).length=q:=hq;omega) hrow (yhK hoa));clear hoa hga hda hka hrow c1;go_wp2_with fail;refine HT.out.mono ?_;rintro e w5 ⟨ht,rfl⟩
  obtain⟨v,rfl,hdr⟩:=ybk ht (by
   intro x hx;rcases List.mem_cons.1 hx with rfl|hx
   ·exact d9
   exact yfY (by decide) R x hx)
  have hval:val 256 (d :: digs 256 R)=256*R+d:=by
   have h:=ycl (B:=256) (by decide) R;rw [val,h];omega
  rw [hval] at hdr;obtain⟨R0,hR0⟩:∃ R0,256*R+d=R0:=⟨_,rfl⟩;rw [hR0] at hdr HR HQ HBd;have Hdr:=jX hdr;clear ht hdr HT hval Hoa hR0 Hr hlq hq hq9 HLr;dsimp only;go_wp2_with fail;have Hkp5:=jX (Hkp.out.tz Hka.out);have Hbx5:=jX (Hka.out.heap Hbx.out (by simp));clear Hkp Hbx Hka;go_loopw [5] (fun rv wr=>∃ t R':Nat,t≤255∧R'+t*B=R0∧DR wr rv R'∧Keep [] w3 wr∧wr.heap[w4.heap.size]? = some (.cells (ints ((mixd 256 n (i+1) (A / B) 0).set i t)).toArray 3 (0,0))) (fun _ wr=>256-qcell wr w4.heap.size i)
  case atStart=>exact ⟨0,R0,by omega,by omega,Hdr.out,Hkp5.out,by rw [mixd_set0];exact Hbx5.out⟩
  case round =>
   obtain⟨t,R',ht,hRt,hdr,hkw,hbw⟩:=hrel;have HdR:=jX hdr;have hRle:R'≤R0:=by omega
   have HC:=jX (yaQ wr _ _ R' B hdr (H2.out.later hkw) (by
    have h1:=Ln_mono hRle;have h2:=Ln_mono (Nat.le_of_lt HBd.out);have h3:=Ln_mul 256 B;have h4:Ln 256≤2:=Ln_le.2 (by decide);have:=HLb.out
    omega) (by have:=HLb.out;omega))
   have HLR:Hid (Ln R'≤200000000):=by
    have h1:=Ln_mono hRle;have h2:=Ln_mono (Nat.le_of_lt HBd.out);have h3:=Ln_mul 256 B;have h4:Ln 256≤2:=Ln_le.2 (by decide);have:=HLb.out;show Ln R'≤200000000
    omega
   have hmx:i<(mixd 256 n (i+1) (A / B) 0).length:=by rw [yhI];exact hin
   obtain⟨xo,xc,rfl,_⟩:=hdr.form;have HRt:=jX hRt;have Hmx:=jX hmx;have Hkw:=jX hkw;have Hbw:=jX hbw;have HtA:=jX ht;have hbz:=yaa hbw;have Hq0:=jX (yfZ (ybW hbw hmx));clear hRle hdr hkw hbw hmx hRt;by_cases hlt:R'<B
   ·rw [ygi hlt] at HC
    obtain⟨e1,e2⟩:=dv_end HB0.out HRt.out hlt;rw [e1] at HQ;rw [e2] at HR;clear e1 e2;go_wp2_with fail;refine HC.out.mono ?_;rintro e w6 ⟨rfl,hk⟩;have Hk6:=jX hk;clear hk HC;dsimp only;go_wp2_with fail;go_roundw
    case rel=>exact ⟨i,by omega,rfl,by rw [HR.out];exact HdR.out.later Hk6.out,Hkw.out.tz Hk6.out,by rw [← ydN (Q:=A / B) hin,HQ.out];exact Hk6.out.heap Hbw.out (by simp)⟩
    case measure=>simp [intOf]
   have ht9:t<255:=by
    rcases Nat.lt_or_ge t 255 with h|h
    ·exact h
    obtain rfl:t=255:=by omega
    exact absurd (dv_last HRt.out HBd.out) hlt
   have hcg:=cmpN_ge (show B≤R' by omega)
   have htd:decide ((t:Int)<255)=true:=by simp;omega
   have HBR:Hid (B≤R'):=by show B≤R';omega
   generalize Lib.compareInt (R':Int) B=c' at *;have hcg2:(0:Int)≤c':=by omega
   clear hlt;go_wp2_with fail;refine HC.out.mono ?_;rintro e w6 ⟨rfl,hk⟩;have Hb6:=jX (hk.heap Hbw.out (by simp));have hcq:=ybW Hb6.out Hmx.out;have hb6:=yaa Hb6.out;have hb6f:=yae Hb6.out;have HdR6:=jX (HdR.out.later hk);have Hk6:=jX (Hkw.out.tz hk);clear hk HC HdR Hkw Hbw hbz;dsimp only;go_wp2_with fail;go_loopw [11,12] (fun sv pv wr=>∃ s:Nat,sv = .int .i64 (s:Int)∧1≤s∧s≤128∧s*B≤R'∧DR wr pv (s*B)∧Keep [] w6 wr) (fun sv _ _=>256-(intOf sv).toNat)
   case atStart=>exact ⟨1,rfl,by omega,by omega,by rw [Nat.one_mul];exact HBR.out,by rw [Nat.one_mul];exact H2.out.later Hk6.out,Keep.refl _ _⟩
   case round =>
    obtain⟨s,rfl,hs1,hs2,hsB,hdp,hk7⟩:=hrel;have hLs:Ln (s*B)≤200000000:=Nat.le_trans (Ln_mono hsB) HLR.out;obtain⟨yo,yc,rfl,_⟩:=hdp.form;have HsB:=jX hsB;have HkV:=jX hk7;have HdpV:=jX hdp;have HP:=jX (yfI wr _ _ _ _ hdp hdp (by omega) (by omega));clear hsB hk7 hdp hcq hb6 hb6f;by_cases h2s:2*s≤128
    ·go_wp2_with fail
     refine HP.out.mono ?_;rintro e w8 ⟨pv,rfl,hd8,hk8⟩;have HC8:=jX (yaQ w8 _ _ _ _ hd8 ((HdR6.out.later HkV.out).later hk8) (by have:=Ln_add (s*B) (s*B);omega) (by have:=HLR.out;omega));obtain⟨qo,qc,rfl,_⟩:=hd8.form;have Hk8:=jX hk8;clear HP hk8 hd8;dsimp only;by_cases hle:s*B+s*B≤R'
     ·have hcl:=cmpN_le hle
      generalize Lib.compareInt ((s*B+s*B:Nat):Int) (R':Int)=c8 at *;go_wp2_with fail;refine HC8.out.mono ?_;rintro e w9 ⟨rfl,hk9⟩;have Hk9:=jX ((HkV.out.tz Hk8.out).tz hk9);have Hdp9:=jX ((HdpV.out.later Hk8.out).later hk9);have HP9:=jX (yfI w9 _ _ _ _ Hdp9.out Hdp9.out (by omega) (by omega));have Hle:=jX hle;clear hk9 HC8 hle;dsimp only;go_wp2_with fail;refine HP9.out.mono ?_;rintro e wx ⟨qv,rfl,hdx,hkx⟩;have Hdx:=jX hdx;have Hkx:=jX hkx;clear HP9 hdx hkx;dsimp only;go_wp2_with fail;go_roundw
      case rel =>
       exact ⟨2*s,by go_num,by omega,by omega,by have:=Hle.out;rw [Nat.mul_assoc];omega,by rw [show 2*s*B=s*B+s*B by rw [Nat.mul_assoc];omega];exact Hdx.out,Hk9.out.tz Hkx.out⟩
      case measure=>simp [intOf];omega
     have hcl:=yhW (show R'<s*B+s*B by omega)
     rw [hcl] at HC8;clear hcl hle;go_wp2_with fail;refine HC8.out.mono ?_;rintro e w9 ⟨rfl,hk9⟩;have HkV:=jX ((HkV.out.tz Hk8.out).tz hk9);have HdpV:=jX ((HdpV.out.later Hk8.out).later hk9);clear hk9 HC8;dsimp only;go_wp2_with fail;have HSk:Hid (∀ W',Keep [] w9 W'→W'.cell? ⟨w4.heap.size,i,none⟩=some (.int .i64 (t:Int))):=fun W' hk=>ybW ((HkV.out.tz hk).heap Hb6.out (by simp)) Hmx.out
     have HM:Hid (∀ W',Keep [] w9 W'→Calls prog 181 #[.slice xo (Ln R') xc,.slice yo (Ln (s*B)) yc] W' (DigitsN W' (R'-s*B))):=fun W' hk =>
      yit W' _ _ R' (s*B) (HdR6.out.later (HkV.out.tz hk)) (HdpV.out.later hk) (by have:=HLR.out;omega) HsB.out
     have Hk6V:=jX (Hk6.out.tz HkV.out);refine yah (S:=fun W'=>W'.cell? ⟨w4.heap.size,i,none⟩=some (.int .i64 (t:Int))) 13 (by kernel_rfl) (by kernel_rfl) (fun _ _ d _ _ h=>by cases d<;>exact h) ?_;have hk0:=Keep.drew [] w9;have hS0:=HSk.out _ hk0;have hb0:=yaa ((HkV.out.tz hk0).heap Hb6.out (by simp));generalize World.drew w9=u0 at *;refine sV 0 hS0 ?_;go_simp;refine sV 1 hS0 ?_;go_simp;refine sV 2 hS0 ?_;go_simp;refine sV 3 hS0 ?_;go_simp;refine sV 5 hS0 ?_;go_simp;refine sV 6 hS0 ?_;go_simp;refine sV 7 hS0 ?_;go_simp;refine sV 8 hS0 ?_;go_simp;refine sV 9 hS0 ?_;go_simp;refine sV 10 hS0 ?_;go_simp;refine jO 4 (fun K hK=>?_);refine yag 181 #[.slice xo (Ln R') xc,.slice yo (Ln (s*B)) yc] (by go_simp) ?_;refine (HM.out _ hk0).mono ?_;rintro e u1 ⟨z1,rfl,hd1,hk1,hn1⟩;have HN:Hid (∀ g,z1.ownBlock=some g→g≠w4.heap.size):=fun g hg=>by have:=hn1 g hg;omega
     clear hn1;have hk2:=hk0.tz hk1;have hS0:=HSk.out _ hk2;refine ⟨_,rfl,?_⟩;refine hK _ _ hS0 ?_;clear hK K;refine sV 11 hS0 ?_;go_simp;refine sV 12 hS0 ?_;go_simp;refine ⟨by kernel_rfl,?_⟩;simp only [List.drop_succ_cons,List.drop_zero];have hbu:=(HkV.out.tz hk2).heap Hb6.out (by simp);have Hbu:=jX hbu;have hlu:=yaa hbu;have hfu:=yae hbu;have Hku:=jX ((Hk6.out.tz HkV.out).tz hk2);have Hd1:=jX hd1;have hrm:=dv_room HB0.out HRt.out HBd.out HsB.out;have HkS:=jX (Hk.out.size)
     have hset:((u1.setCell ⟨w4.heap.size,i,none⟩ (.int .i64 ((t+s:Nat):Int))).heap[w4.heap.size]?)=some (.cells (ints ((mixd 256 n (i+1) (A / B) 0).set i (t+s))).toArray 3 (0,0)):=by
      rw [set_same Hbu.out,List.setIfInBounds_toArray,ints_set,List.set_set]
     have Hset:=jX hset;clear hbu hd1 hk0 hk1 hk2 hset HM HSk;go_wp2_with fail;rw [show ((t:Int)+(s:Int))=((t+s:Nat):Int) by omega]
     go_roundw
     case rel =>
      refine ⟨t+s,R'-s*B,by omega,?_,?_,Hku.out.sP _ _ _ HkS.out,Hset.out⟩
      ·have h1:=HRt.out
       have h2:=HsB.out;rw [Nat.add_mul];omega
      exact Hd1.out.past (Keep.setCell _ _ _ _ _ (by simp)) HN.out
     case measure =>
      rw [yfZ (ybW Hset.out Hmx.out),Hq0.out];omega
    go_wp2_with fail;have HSk:Hid (∀ W',Keep [] wr W'→W'.cell? ⟨w4.heap.size,i,none⟩=some (.int .i64 (t:Int))):=fun W' hk=>ybW ((HkV.out.tz hk).heap Hb6.out (by simp)) Hmx.out
    have HM:Hid (∀ W',Keep [] wr W'→Calls prog 181 #[.slice xo (Ln R') xc,.slice yo (Ln (s*B)) yc] W' (DigitsN W' (R'-s*B))):=fun W' hk =>
     yit W' _ _ R' (s*B) (HdR6.out.later (HkV.out.tz hk)) (HdpV.out.later hk) (by have:=HLR.out;omega) HsB.out
    have Hk6V:=jX (Hk6.out.tz HkV.out);refine yah (S:=fun W'=>W'.cell? ⟨w4.heap.size,i,none⟩=some (.int .i64 (t:Int))) 13 (by kernel_rfl) (by kernel_rfl) (fun _ _ d _ _ h=>by cases d<;>exact h) ?_;have hk0:=Keep.drew [] wr;have hS0:=HSk.out _ hk0;have hb0:=yaa ((HkV.out.tz hk0).heap Hb6.out (by simp));generalize World.drew wr=u0 at *;refine sV 0 hS0 ?_;go_simp;refine sV 1 hS0 ?_;go_simp;refine sV 2 hS0 ?_;go_simp;refine sV 3 hS0 ?_;go_simp;refine sV 5 hS0 ?_;go_simp;refine sV 6 hS0 ?_;go_simp;refine sV 7 hS0 ?_;go_simp;refine sV 8 hS0 ?_;go_simp;refine sV 9 hS0 ?_;go_simp;refine sV 10 hS0 ?_;go_simp;refine jO 4 (fun K hK=>?_);refine yag 181 #[.slice xo (Ln R') xc,.slice yo (Ln (s*B)) yc] (by go_simp) ?_;refine (HM.out _ hk0).mono ?_;rintro e u1 ⟨z1,rfl,hd1,hk1,hn1⟩;have HN:Hid (∀ g,z1.ownBlock=some g→g≠w4.heap.size):=fun g hg=>by have:=hn1 g hg;omega
    clear hn1;have hk2:=hk0.tz hk1;have hS0:=HSk.out _ hk2;refine ⟨_,rfl,?_⟩;refine hK _ _ hS0 ?_;clear hK K;refine sV 11 hS0 ?_;go_simp;refine sV 12 hS0 ?_;go_simp;refine ⟨by kernel_rfl,?_⟩;simp only [List.drop_succ_cons,List.drop_zero];have hbu:=(HkV.out.tz hk2).heap Hb6.out (by simp);have Hbu:=jX hbu;have hlu:=yaa hbu;have hfu:=yae hbu;have Hku:=jX ((Hk6.out.tz HkV.out).tz hk2);have Hd1:=jX hd1;have hrm:=dv_room HB0.out HRt.out HBd.out HsB.out;have HkS:=jX (Hk.out.size)
    have hset:((u1.setCell ⟨w4.heap.size,i,none⟩ (.int .i64 ((t+s:Nat):Int))).heap[w4.heap.size]?)=some (.cells (ints ((mixd 256 n (i+1) (A / B) 0).set i (t+s))).toArray 3 (0,0)):=by
     rw [set_same Hbu.out,List.setIfInBounds_toArray,ints_set,List.set_set]
    have Hset:=jX hset;clear hbu hd1 hk0 hk1 hk2 hset HM HSk;go_wp2_with fail;rw [show ((t:Int)+(s:Int))=((t+s:Nat):Int) by omega]
    go_roundw
    case rel =>
     refine ⟨t+s,R'-s*B,by omega,?_,?_,Hku.out.sP _ _ _ HkS.out,Hset.out⟩
     ·have h1:=HRt.out
      have h2:=HsB.out;rw [Nat.add_mul];omega
     exact Hd1.out.past (Keep.setCell _ _ _ _ _ (by simp)) HN.out
    case measure =>
     rw [yfZ (ybW Hset.out Hmx.out),Hq0.out];omega
theorem yeD (w:World) (v1 v2:Value) (A B:Nat) (h1:DR w v1 A) (h2:DR w v2 B) (hA:Ln A≤100000000) (hB:Ln B≤100000000) (hB0:0<B) :
  Calls prog 178 #[v1,v2] w (DivPost w A B):=by
 by_cases h:Ln A≤7∧Ln B≤7
 ·exact divide_s w v1 v2 A B h1 h2 h.1 h.2 hB0
 rcases Nat.lt_or_ge A B with hAB|hAB
 ·have:=Ln_mono (Nat.le_of_lt hAB)
  exact divide_l w v1 v2 A B h1 h2 (by omega) (by omega) (by omega) hAB
 have:=Ln_mono hAB;exact divide_m w v1 v2 A B h1 h2 hA (by omega) hAB hB0
theorem yiW {w:World} {v:Value} {xs ys:List Value} (h:RowR w v xs) (k:RowR w v ys):xs=ys:=by
 rcases h with ⟨rfl,rfl⟩|⟨g,o,c,rfl,hg,hc⟩
 ·rcases k with ⟨_,rfl⟩|⟨g,o,c,e,_⟩
  ·rfl
  cases e
 rcases k with ⟨e,_⟩|⟨g',o',c',e,_,hc'⟩
 ·cases e
 injection e with e1 e2 e3;injection e1 with e1;injection e1 with e1 e4;subst e1 e4;apply List.ext_getElem e2;intro i h1 h2;have a:=hc i _ (List.getElem?_eq_getElem h1);have b:=hc' i _ (List.getElem?_eq_getElem h2);rw [a] at b;injection b
theorem ints_inj {a b:List Nat} (h:ints a=ints b):a=b:=by
 unfold ints at h;induction a generalizing b with
 | nil=>cases b with
  | nil=>rfl
  | cons y b=>simp at h
 | cons x a ih=>cases b with
  | nil=>simp at h
  | cons y b =>
   simp only [List.map_cons,List.cons.injEq] at h
   have hxy:x=y:=by
    have:=h.1;injection this with _ h2;omega
   rw [hxy,ih h.2]
theorem dr_unique {w:World} {v:Value} {M N:Nat} (h:DR w v M) (k:DR w v N):M=N:=by
 have e:=ints_inj (yiW h.1 k.1);rw [← ycl (B:=256) (by decide) M,e,ycl (by decide)]
open Classical in
noncomputable def ydl (w:World) (v:Value):Nat:=if h:∃ N,DR w v N then h.choose else 0
theorem yco {w:World} {v:Value} {N:Nat} (h:DR w v N):ydl w v=N:=by
 have hx:∃ N,DR w v N:=⟨N,h⟩;unfold ydl;rw [dif_pos hx];exact dr_unique hx.choose_spec h
theorem Ln_zero:Ln 0=0:=by unfold Ln;rw [yaS];rfl
theorem Ln_pos {N:Nat} (h:0<N):0<Ln N:=by
 rcases Nat.eq_zero_or_pos (Ln N) with h0|h0
 ·have:=Ln_lt N
  rw [h0] at this;omega
 exact h0
theorem yii (w:World) (v1 v2:Value) (A B:Nat) (h1:DR w v1 A) (h2:DR w v2 B) (hA:Ln A≤100000000) (hB:Ln B≤100000000) :
  Calls prog 136 #[v1,v2] w (Digits w (Nat.gcd A B)):=by
 have H1:=jX h1;have H2:=jX h2;have HA:=jX hA;have HB:=jX hB;clear h1 h2 hA hB;go_enter func136,ntmps136
 go_wp2_with fail;go_loopw [0,1] (fun a b wr=>∃ X Y:Nat,Nat.gcd X Y=Nat.gcd A B∧DR wr a X∧DR wr b Y∧Keep [] w wr∧Ln X≤100000000∧Ln Y≤100000000) (fun _ b wr=>ydl wr b)
 case atStart=>exact ⟨A,B,rfl,H1.out,H2.out,Keep.refl _ _,HA.out,HB.out⟩
 case round =>
  obtain⟨X,Y,hg,ha,hb,hk,hX,hY⟩:=hrel;have Hg:=jX hg;have Ha:=jX ha;have Hb:=jX hb;have Hk:=jX hk;have Hm:=jX (yco hb);obtain⟨ao,ac,rfl,_⟩:=ha.form;obtain⟨bo,bc,rfl,_⟩:=hb.form;clear hg ha hb hk;by_cases hY0:Y=0
  ·subst hY0
   have hl:=Ln_zero;rw [hl] at *;have hz:(0:Int)<((0:Nat):Int)↔False:=by simp
   go_wp2_with fail;go_ret
   exact ⟨_,rfl,by rw [← Hg.out,Nat.gcd_zero_right];exact Ha.out,Hk.out⟩
  have hp:=Ln_pos (show 0<Y by omega)
  have HD:=jX (yeD wr _ _ X Y Ha.out Hb.out hX hY (by omega));have HY:=jX (show 0<Y by omega)
  have HXY:=jX (And.intro hX hY);obtain⟨m,hm⟩:∃ m,Ln Y=m:=⟨_,rfl⟩;rw [hm] at hp hY HD Hb Hm ⊢;have Hm2:=jX hm;clear hY0 hm;go_wp2_with fail;refine HD.out.mono ?_;rintro e w5 ⟨q,r,rfl,_,hr,hk5⟩;have Hr:=jX hr;have Hk5:=jX hk5;clear HD hr hk5;dsimp only;go_wp2_with fail;go_roundw
  case rel =>
   have h9:=Nat.mod_lt X HY.out;refine ⟨Y,X % Y,?_,?_,Hr.out,Hk.out.tz Hk5.out,HXY.out.2,?_⟩
   ·rw [← Hg.out,Nat.gcd_comm X Y,Nat.gcd_comm Y (X % Y),← Nat.gcd_rec]
   ·exact Hb.out.later Hk5.out
   exact Nat.le_trans (Ln_mono (Nat.le_of_lt h9)) HXY.out.2
  case measure =>
   have h9:=Nat.mod_lt X HY.out;rw [show ydl _ _=X % Y from yco Hr.out,show ydl _ _=Y from Hm.out]
   exact h9
theorem Ln_mag (N:Nat):(magL N).length=Ln N:=by
 have h:∀ k,(magL N).length≤k↔Ln N≤k:=fun k=>by rw [Ln_le];exact yaW N k
 have h1:=(h _).1 (Nat.le_refl _);have h2:=(h _).2 (Nat.le_refl _);omega
theorem full_mag (N:Nat):strOfNums (bnum (Ln N) N (Ln N))=magS N:=by
 have h:=yiJ (Ln N) N (Ln_lt N);have hl:(strOfNums (bnum (Ln N) N (Ln N))).data.toList.length=Ln N:=by rw [strOfNums_data,List.length_map,ydm]
 have hs:=List.dropWhile_suffix (l:=(strOfNums (bnum (Ln N) N (Ln N))).data.toList) (· == 0);have e:=hs.eq_of_length (by rw [h,Ln_mag,hl]);rw [h] at e;unfold magS;rw [e]
theorem yeO (w:World) (v:Value) (neg:Bool) (N:Nat) (h:DR w v N) (hN:Ln N≤1000000000) :
  Calls prog 177 #[v,.bool neg] w fun e w'=>e = .returned (.agg #[.bool (neg&&decide (0<N)),.string (magS N)])∧Keep [] w w':=by
 have H:=jX h;obtain⟨vo,vc,rfl,_⟩:=h.form;clear h;have HN:=jX hN
 have hd0:decide (0<N)=decide (0<Ln N):=by
  by_cases h0:N=0
  ·subst h0;rw [Ln_zero]
  have:=Ln_pos (show 0<N by omega)
  have:0<N:=by omega
  simp [*]
 rw [hd0];have HF:=jX (full_mag N);go_enter func177,ntmps177
 go_wp2_with fail;obtain⟨W,ga,hW,ega,Bga,hga,hgW,HkW⟩:=al1h w (.cells #[.bool false,.string ⟨#[]⟩] 26);rw [← hW];try rw [ega]
 clear hW ega;obtain⟨pga,fga,lga⟩:=jQ Bga;have HT:=jX (ydw W (.slice vo (Ln N) vc) (digs 256 N) (by show Ln N≤_;omega) (H.out.later HkW.out).1 H.out.2)
 go_wp2_with fail;refine HT.out.mono ?_;rintro e w2 ⟨ht,hw2⟩;subst hw2;obtain⟨v',rfl,hdr⟩:=ybk ht (yfY (by decide) N);rw [ycl (by decide)] at hdr;have Hdr:=jX hdr;obtain⟨ao,ac,rfl,_⟩:=hdr.form;clear ht hdr HT hd0;obtain⟨n,hn⟩:∃ n,Ln N=n:=⟨_,rfl⟩;have Hca:Hid (∀ i,i<n→∃ g o,ao=some ⟨g,o,none⟩∧g<w2.heap.size∧w2.cell? ⟨g,o+i,none⟩=some (.int .i64 ((N / 256 ^ i % 256:Nat):Int))):=fun i hi=>Hdr.out.cell (by omega);rw [hn] at HF hN ⊢;dsimp only;have hmk:=yfx w2 n N (by omega);have HNn:=jX hn;clear hn Hdr;go_wp2_with fail;clear hmk;go_loopw [6] (fun x wr=>∃ i:Nat,i≤n∧x = .int .i64 (i:Int)∧wr=w2.alloc (.cells (brow n N i) 5)) (fun x _=>n-(intOf x).toNat)
 case atStart=>exact ⟨0,by omega,rfl,rfl⟩
 case round =>
  obtain⟨i,hi,rfl,rfl⟩:=hrel;by_cases hlt:i<n
  ·obtain⟨g1,o1,rfl,hg1,c1⟩:=Hca.out i hlt
   have d9:=Nat.mod_lt (N / 256 ^ i) (show 0<256 by decide)
   have Hs:=jX (yin n N i hlt);have hg:=yiG n N i hlt;have e1:(((n:Int)-1-(i:Int)).toNat)=n-1-i:=by omega
   generalize N / 256 ^ i % 256=d at *;have hd1:(d:Int) % 256=(d:Int):=by omega
   go_wp2_with fail;go_roundw
   case rel=>exact ⟨i+1,by omega,by go_num,by rw [← Hs.out]⟩
   case measure=>simp [intOf];omega
  obtain rfl:i=n:=by omega
  have hbl:(bnum i N i).length=i:=ydm _ _ _
  have hconv:=run_convert_bytes_arg (P:=prog) (w2.alloc (.cells (brow i N i) 5)) 211 5 underlying211 underlying5 w2.heap.size 0 i i (bnum i N i) hbl (fun j hj=>by
   rw [Nat.zero_add,World.cell?_alloc_at _ _ _ _ rfl];unfold brow
   rw [List.getElem?_toArray,List.getElem?_map,List.getD_eq_getElem?_getD,List.getElem?_eq_getElem (by omega)];rfl) 9 underlying9
  rw [HF.out] at hconv;by_cases hp:0<i
  ·have hpd:decide (0<i)=true:=by simpa using hp
   have HPD:=jX hpd;cases neg
   ·go_wp2_with fail
    refine bodyPost_ret (v:=.agg #[.bool false,.string (magS N)]) ?_ rfl ⟨by rw [HNn.out,HPD.out];rfl,by repeat (first|(with_reducible exact HkW.out)|(refine Keep.sP ?_ _ _ _ (by omega))|(refine Keep.aP ?_ _)|(refine Keep.dP ?_))⟩;rw [yac rfl];go_simp
   go_wp2_with fail;refine bodyPost_ret (v:=.agg #[.bool true,.string (magS N)]) ?_ rfl ⟨by rw [HNn.out,HPD.out];rfl,by repeat (first|(with_reducible exact HkW.out)|(refine Keep.sP ?_ _ _ _ (by omega))|(refine Keep.aP ?_ _)|(refine Keep.dP ?_))⟩;rw [yac rfl];go_simp
  have hpd:decide (0<i)=false:=by simpa using hp
  have HPD:=jX hpd;cases neg
  ·go_wp2_with fail
   refine bodyPost_ret (v:=.agg #[.bool false,.string (magS N)]) ?_ rfl ⟨by rw [HNn.out,HPD.out];rfl,by repeat (first|(with_reducible exact HkW.out)|(refine Keep.sP ?_ _ _ _ (by omega))|(refine Keep.aP ?_ _)|(refine Keep.dP ?_))⟩;rw [yac rfl];go_simp
  go_wp2_with fail;refine bodyPost_ret (v:=.agg #[.bool false,.string (magS N)]) ?_ rfl ⟨by rw [HNn.out,HPD.out];rfl,by repeat (first|(with_reducible exact HkW.out)|(refine Keep.sP ?_ _ _ _ (by omega))|(refine Keep.aP ?_ _)|(refine Keep.dP ?_))⟩;rw [yac rfl];go_simp
theorem div_mk (neg:Bool) (A B:Nat) (hB:0<B):(Rat.divInt (mk neg A) (B:Int)).num=mk neg (A / Nat.gcd A B)∧(Rat.divInt (mk neg A) (B:Int)).den=B / Nat.gcd A B:=by
 have hg:Int.gcd (mk neg A) (B:Int)=Nat.gcd A B:=by unfold Int.gcd;rw [mk_abs];rfl
 have hn:(Rat.divInt (mk neg A) (B:Int)).num=mk neg A / (Int.gcd (mk neg A) (B:Int):Nat):=by
  rw [Rat.num_divInt,Int.sign_eq_one_of_pos (by omega),Int.one_mul,Int.gcd_comm]
 have hd:(Rat.divInt (mk neg A) (B:Int)).den=B / Nat.gcd A B:=by
  rw [Rat.den_divInt,if_neg (by omega),Int.gcd_comm,hg,Int.natAbs_natCast]
 refine ⟨?_,hd⟩;rw [hn,hg];cases neg
 ·rfl
 show -(A:Int) / ((Nat.gcd A B:Nat):Int) = -((A / Nat.gcd A B:Nat):Int)
 rw [Int.neg_ediv_of_dvd (Int.natCast_dvd_natCast.2 (Nat.gcd_dvd_left A B))];rfl
theorem ycm (w:World) (v1 v2:Value) (neg:Bool) (A B:Nat) (h1:DR w v1 A) (h2:DR w v2 B) (hA:Ln A≤100000000) (hB:Ln B≤100000000) (hB0:0<B) :
  Calls prog 142 #[.agg #[.bool neg,v1,v2]] w fun e w'=>e = .returned (rv (Rat.divInt (mk neg A) (B:Int)))∧Keep [] w w':=by
 obtain⟨hn,hd⟩:=div_mk neg A B hB0;have hg0:=Nat.gcd_pos_of_pos_right A hB0;have hgB:Nat.gcd A B≤B:=Nat.le_of_dvd hB0 (Nat.gcd_dvd_right A B);have hq1:Ln (A / Nat.gcd A B)≤100000000:=Nat.le_trans (Ln_mono (Nat.div_le_self _ _)) hA;have hq2:Ln (B / Nat.gcd A B)≤100000000:=Nat.le_trans (Ln_mono (Nat.div_le_self _ _)) hB;have hgl:Ln (Nat.gcd A B)≤100000000:=Nat.le_trans (Ln_mono hgB) hB
 have hr:rv (Rat.divInt (mk neg A) (B:Int)) = .agg #[.bool (neg&&decide (0<A / Nat.gcd A B)),.string (magS (A / Nat.gcd A B)),.bool false,.string (dnS (B / Nat.gcd A B))]:=by
  unfold rv;rw [hn,hd,mk_sg,ygC,show ∀ x:Nat,decide (x≠0)=decide (0<x) from fun x=>by simp [Nat.pos_iff_ne_zero]]
 rw [hr];have H1:=jX h1;have H2:=jX h2;have HL:=jX (And.intro hA (And.intro hB (And.intro hq1 (And.intro hq2 hgl))));have HG0:=jX hg0;obtain⟨ao,ac,rfl,_⟩:=h1.form;obtain⟨bo,bc,rfl,_⟩:=h2.form;have HC:Hid (∀ w',Keep [] w w'→Calls prog 136 #[.slice ao (Ln A) ac,.slice bo (Ln B) bc] w' (Digits w' (Nat.gcd A B))):=fun w' hk=>yii w' _ _ A B (H1.out.later hk) (H2.out.later hk) hA hB;clear hr hn hd h1 h2 hgB hA hB hB0 hg0 hq1 hq2 hgl;generalize Nat.gcd A B=G at *;go_enter func142,ntmps142
 go_wp2_with fail;obtain⟨W,ga,gb,hW,ega,egb,Bga,Bgb,hga,hgb,hgW,HkW⟩:=al2h w (.cells #[.bool neg,.slice ao (Ln A) ac,.slice bo (Ln B) bc] 160) (.cells #[.bool false,.string ⟨#[]⟩,.bool false,.string ⟨#[]⟩] 28);rw [← hW];try rw [egb]
 try rw [ega]
 clear hW ega egb;obtain⟨pga,fga,lga⟩:=jQ Bga;go_wp2_with fail;refine (HC.out W HkW.out).mono ?_;rintro e w3 ⟨gv,rfl,hgd,hk_w3⟩;have Hgd:=jX hgd;obtain⟨go,gc,rfl,_⟩:=hgd.form;dsimp only;clear pga fga lga HC hgd;replace Bga:=jH hk_w3 Bga;replace Bgb:=jH hk_w3 Bgb;replace HkW:=jX (HkW.out.tz hk_w3);clear hk_w3;obtain⟨pga,fga,lga⟩:=jQ Bga;have HD1:=jX (yeD w3 _ _ A G (H1.out.later HkW.out) Hgd.out HL.out.1 HL.out.2.2.2.2 HG0.out);go_wp2_with fail;refine HD1.out.mono ?_;rintro e w4 ⟨q1,r1,rfl,hq1,_,hk_w4⟩;have Hq1:=jX hq1;have Hgd:=jX (Hgd.out.later hk_w4);obtain⟨xo,xc,rfl,_⟩:=hq1.form;dsimp only;clear pga fga lga HD1 hq1;replace Bga:=jH hk_w4 Bga;replace Bgb:=jH hk_w4 Bgb;replace HkW:=jX (HkW.out.tz hk_w4);clear hk_w4;obtain⟨pga,fga,lga⟩:=jQ Bga;have HD2:=jX (yeD w4 _ _ B G (H2.out.later HkW.out) Hgd.out HL.out.2.1 HL.out.2.2.2.2 HG0.out);go_wp2_with fail;refine HD2.out.mono ?_;rintro e w5 ⟨q2,r2,rfl,hq2,_,hk_w5⟩;have Hq2:=jX hq2;have Hq1:=jX (Hq1.out.later hk_w5);obtain⟨yo,yc,rfl,_⟩:=hq2.form;dsimp only;clear pga fga lga HD2 hq2;replace Bga:=jH hk_w5 Bga;replace Bgb:=jH hk_w5 Bgb;replace HkW:=jX (HkW.out.tz hk_w5);clear hk_w5;obtain⟨pga,fga,lga⟩:=jQ Bga;have HW1:=jX (yeO w5 _ neg (A / G) Hq1.out (by have:=HL.out.2.2.1;omega));have HLy:=jX HL.out.2.2.2.1;clear HL HG0 H1 H2;have HLY:Hid (Ln (B / G)≤100000000):=HLy.out;generalize hX:A / G=X at *;generalize hYe:B / G=Y at *;generalize hsx:(neg&&decide (0<X))=sx at *;generalize hmx:magS X=mx at *;have HX:=jX hX;have HYe:=jX hYe;have HSx:=jX hsx;have HMx:=jX hmx;clear hX hYe hsx hmx;by_cases hY:Y=1
 ·subst hY
  have hd1:dnS 1=⟨#[]⟩:=ycM rfl;have HD1:=jX hd1
  have hL1:Ln 1=1:=by
   have a:Ln 1≤1:=Ln_le.2 (by decide);have b:=Ln_pos (show 0<1 by decide)
   omega
  obtain⟨g1,o1,rfl,hg1,c1⟩:=Hq2.out.cell (i:=0) (by omega);rw [hL1] at *;rw [Nat.add_zero] at c1;have c2:w5.cell? ⟨g1,o1,none⟩=some (.int .i64 1):=c1;clear c1 hL1 hd1;go_wp2_with fail;refine HW1.out.mono ?_;rintro e w6 ⟨rfl,hk_w6⟩;have HW2:=jX (yeO w6 _ false 0 (yiz w6) (by rw [Ln_zero];omega));dsimp only;clear HW1 pga fga lga;replace Bga:=jH hk_w6 Bga;replace Bgb:=jH hk_w6 Bgb;replace HkW:=jX (HkW.out.tz hk_w6);clear hk_w6;go_wp2_with fail;refine HW2.out.mono ?_;rintro e w7 ⟨rfl,hk_w7⟩;rw [magS_zero];dsimp only;clear HW2;replace Bga:=jH hk_w7 Bga;replace Bgb:=jH hk_w7 Bgb;replace HkW:=jX (HkW.out.tz hk_w7);clear hk_w7;obtain⟨pgb,fgb,lgb⟩:=jQ Bgb;go_wp2_with fail;refine bodyPost_ret (v:=.agg #[.bool sx,.string mx,.bool false,.string ⟨#[]⟩]) ?_ rfl ⟨by rw [HYe.out,HX.out,HSx.out,HMx.out,HD1.out],by repeat (first|(with_reducible exact HkW.out)|(refine Keep.sP ?_ _ _ _ (by omega))|(refine Keep.aP ?_ _)|(refine Keep.dP ?_))⟩;rw [yac rfl];go_simp
 have hd1:dnS Y=magS Y:=yel hY;have HD1:=jX hd1;clear hd1;by_cases hL:Ln Y=1
 ·obtain⟨g1,o1,rfl,hg1,c1⟩:=Hq2.out.cell (i:=0) (by omega)
  have hy9:Y<256:=by have:=Ln_lt Y;rw [hL] at this;simpa using this
  rw [Nat.add_zero,Nat.pow_zero,Nat.div_one,Nat.mod_eq_of_lt hy9] at c1;rw [hL] at *;have hy1:((Y:Int) == 1)=false:=by rw [beq_eq_false_iff_ne];omega
  clear hL;go_wp2_with fail;refine HW1.out.mono ?_;rintro e w6 ⟨rfl,hk_w6⟩;have HW2:=jX (yeO w6 _ false Y (Hq2.out.later hk_w6) (by have:=HLY.out;omega));rw [Bool.false_and] at HW2;dsimp only;clear HW1 pga fga lga;replace Bga:=jH hk_w6 Bga;replace Bgb:=jH hk_w6 Bgb;replace HkW:=jX (HkW.out.tz hk_w6);clear hk_w6;go_wp2_with fail;refine HW2.out.mono ?_;rintro e w7 ⟨rfl,hk_w7⟩;dsimp only;clear HW2;replace Bga:=jH hk_w7 Bga;replace Bgb:=jH hk_w7 Bgb;replace HkW:=jX (HkW.out.tz hk_w7);clear hk_w7;obtain⟨pgb,fgb,lgb⟩:=jQ Bgb;go_wp2_with fail;refine bodyPost_ret (v:=.agg #[.bool sx,.string mx,.bool false,.string (magS Y)]) ?_ rfl ⟨by rw [HYe.out,HX.out,HSx.out,HMx.out,HD1.out],by repeat (first|(with_reducible exact HkW.out)|(refine Keep.sP ?_ _ _ _ (by omega))|(refine Keep.aP ?_ _)|(refine Keep.dP ?_))⟩;rw [yac rfl];go_simp
 have hl1:((Ln Y:Int) == 1)=false:=by rw [beq_eq_false_iff_ne];omega
 clear hL;go_wp2_with fail;refine HW1.out.mono ?_;rintro e w6 ⟨rfl,hk_w6⟩;have HW2:=jX (yeO w6 _ false Y (Hq2.out.later hk_w6) (by have:=HLY.out;omega));rw [Bool.false_and] at HW2;dsimp only;clear HW1 pga fga lga;replace Bga:=jH hk_w6 Bga;replace Bgb:=jH hk_w6 Bgb;replace HkW:=jX (HkW.out.tz hk_w6);clear hk_w6;go_wp2_with fail;refine HW2.out.mono ?_;rintro e w7 ⟨rfl,hk_w7⟩;dsimp only;clear HW2;replace Bga:=jH hk_w7 Bga;replace Bgb:=jH hk_w7 Bgb;replace HkW:=jX (HkW.out.tz hk_w7);clear hk_w7;obtain⟨pgb,fgb,lgb⟩:=jQ Bgb;go_wp2_with fail;refine bodyPost_ret (v:=.agg #[.bool sx,.string mx,.bool false,.string (magS Y)]) ?_ rfl ⟨by rw [HYe.out,HX.out,HSx.out,HMx.out,HD1.out],by repeat (first|(with_reducible exact HkW.out)|(refine Keep.sP ?_ _ _ _ (by omega))|(refine Keep.aP ?_ _)|(refine Keep.dP ?_))⟩;rw [yac rfl];go_simp
end Go.Proofs.YtpgffjjpiafhpaaGreatDoor
