/- Parts of a proof: Rv Ru. -/
import Derived.Test.YtejegogbhpmgfaaGreatDoorG19
set_option linter.unusedVariables false
set_option linter.unusedSimpArgs false
set_option maxRecDepth 100000
set_option maxHeartbeats 8000000
namespace Go.Proofs.YtejegogbhpmgfaaGreatDoor
open Go.RowKit Tryz
def DigitsN (w0:World) (N:Nat) (e:Ending) (w':World):Prop:=∃ v,e = .returned v∧DR w' v N∧Keep [] w0 w'∧∀ g,v.ownBlock=some g→w0.heap.size≤g
theorem yiF (w:World) (sv:Value) (l:List Nat) (hl9:l.length≤1000000000000) (h:RowR w sv (ints l)) (hcap:CapOk sv) :
  Calls prog 171 #[sv] w fun e w'=>Trimmed w l e∧w'=w∧∀ v,e = .returned v→v.ownBlock=sv.ownBlock:=by
 rcases h with ⟨rfl,h0⟩|⟨g,o,c,rfl,hg,hc⟩
 ·have h1:l=[]:=by simpa [ints] using h0
  subst h1;go_enter func171,ntmps171
  go_wp2_with fail;go_rounds 1
  go_wp2_with fail;go_ret
  exact ⟨⟨_,rfl,.inl ⟨rfl,rfl⟩,fun a n c e=>by injection e with _ e2 e3;omega⟩,rfl,fun v h=>by injection h with h;subst h;rfl⟩
 rw [ybi] at hcap ⊢;have hlc:l.length≤c:=hcap _ _ _ rfl;have Hc:=jX hc;clear hc hcap;go_enter func171,ntmps171
 go_wp2_with fail;go_loop [3] (fun x=>∃ m:Nat,m≤l.length∧x = .int .i64 (m:Int)∧trimD (l.take m)=trimD l) (fun x=>(intOf x).toNat)
 case atStart=>exact ⟨l.length,Nat.le_refl _,rfl,by rw [List.take_length]⟩
 case round =>
  obtain⟨m,hm,rfl,ht⟩:=hrel;have Ht:=jX ht;clear ht
  match m,hm,Ht with
  | 0,hm,Ht =>
   have hT:=jX (ydb (c:=c) hm hlc Ht.out.symm hg Hc.out);go_wp2_with fail;go_ret
   exact ⟨hT.out,rfl,fun v h=>by injection h with h;subst h;rfl⟩
  | k+1,hm,Ht =>
   have hcell:=Hc.out k _ (yga l k (by omega));have hi:(((k+1:Nat):Int)-1).toNat=k:=by omega
   by_cases hz:l[k]=0
   ·have hstep:=ybQ l k (by omega) hz
    rw [hz] at hcell;have Hstep:=jX (hstep.symm.trans Ht.out);clear hstep hz;go_wp2_with fail;go_round
    case rel=>exact ⟨k,by omega,congrArg (Value.int .i64) (by omega),Hstep.out⟩
    case measure=>simp [intOf]
   have hstep:=ycr l k (by omega) hz;have hT:=jX (ydb (c:=c) hm hlc (Ht.out.symm.trans hstep) hg Hc.out);have hne:(((l[k]:Nat):Int) == 0)=false:=by rw [beq_eq_false_iff_ne];omega
   generalize l[k]=d at *;clear hstep hz;go_wp2_with fail;go_ret
   exact ⟨hT.out,rfl,fun v h=>by injection h with h;subst h;rfl⟩
theorem yil (w:World) (v1 v2:Value) (A B:Nat) (h1:DR w v1 A) (h2:DR w v2 B) (hA:Ln A≤1000000000) (hBA:B≤A) :
  Calls prog 141 #[v1,v2] w (DigitsN w (A-B)):=by
 obtain⟨i0,hi,hz0,hz1,hz2⟩:=yaQ infoInt;have Hi:=jX (And.intro hi (And.intro hz0 (And.intro hz1 hz2)));clear hi hz0 hz1 hz2;have hB:Ln B≤1000000000:=Nat.le_trans (Ln_mono hBA) hA;obtain⟨ao,ac,rfl,_⟩:=h1.form;obtain⟨bo,bc,rfl,_⟩:=h2.form;obtain⟨n,hn⟩:∃ n,Ln A=n:=⟨_,rfl⟩;obtain⟨m,hm⟩:∃ m,Ln B=m:=⟨_,rfl⟩;have Hca:Hid (∀ w',Keep [] w w'→∀ i,i<n→∃ g o,ao=some ⟨g,o,none⟩∧g<w'.heap.size∧w'.cell? ⟨g,o+i,none⟩=some (.int .i64 ((A / 256 ^ i % 256:Nat):Int))):=fun w' hk i hi=>(h1.later hk).cell (by omega);have Hcb:Hid (∀ w',Keep [] w w'→∀ i,i<m→∃ g o,bo=some ⟨g,o,none⟩∧g<w'.heap.size∧w'.cell? ⟨g,o+i,none⟩=some (.int .i64 ((B / 256 ^ i % 256:Nat):Int))):=fun w' hk i hi=>(h2.later hk).cell (by omega);have Hzb:Hid (∀ i,¬ i<m→B / 256 ^ i % 256=0):=fun i h=>Ln_high (by omega);have HLa:Hid (A<256 ^ n):=by rw [← hn];exact Ln_lt A
 have HBA:=jX hBA;rw [hn] at hA ⊢;rw [hm] at hB ⊢;clear h1 h2 hn hm hBA;go_enter func141,ntmps141
 go_wp2_with fail;go_loopw [5,6,7] (fun b c x wr=>∃ i:Nat,i≤n∧x = .int .i64 (i:Int)∧c = .int .i64 (yaB 256 i A B:Nat)∧∃ l,l=dl 256 i (A-B)∧OI w wr b l) (fun _ _ x _=>n-(intOf x).toNat)
 case atStart=>exact ⟨0,by omega,rfl,by rw [ydm];rfl,_,rfl,OI.nil _⟩
 case round =>
  obtain⟨i,hi,rfl,rfl,l,hl,hoi⟩:=hrel;have Hrow:=jX hoi;have hl9:l.length≤1000000001:=by rw [hl,yaP];omega
  obtain⟨po,pc,rfl⟩:=hoi.form;have Hl:=jX hl;clear hl hoi;by_cases ha:i<n
  ·obtain⟨g1,o1,rfl,hg1,c1⟩:=Hca.out wr Hrow.out.keep i ha
   have x9:=Nat.mod_lt (A / 256 ^ i) (show 0<256 by decide)
   have y9:=Nat.mod_lt (B / 256 ^ i) (show 0<256 by decide)
   have d9:=Nat.mod_lt ((A-B) / 256 ^ i) (show 0<256 by decide)
   obtain⟨hs1,hs2⟩:=yct (show 0<256 by decide) i A B HBA.out
   have Hsn:=jX (ydC 256 i (A-B));have hc1:yaB 256 i A B≤1:=by unfold yaB;split<;>omega
   by_cases hb:i<m
   ·obtain⟨g2,o2,rfl,hg2,c2⟩:=Hcb.out wr Hrow.out.keep i hb
    generalize A / 256 ^ i % 256=x at *;generalize B / 256 ^ i % 256=y at *;generalize (A-B) / 256 ^ i % 256=d at *;generalize yaB 256 i A B=c at *;by_cases hbr:x<y+c
    ·obtain⟨e1,e2⟩:=hs1 hbr
     have He1:=jX e1;have hbz:(x:Int)-c-y<0:=by omega
     have hd2:(x:Int)-c-y+256=d:=by omega
     clear hs1 hs2 e1 e2;go_wp2_with (at_builtin;refine yao _ rfl _ _ 133 rfl 3 i0 _ 1 8 underlying133 Hi.out.1 Hi.out.2.1 Hi.out.2.2.1 Hi.out.2.2.2 rfl (by decide) _ _ _ rfl (yay Hrow.out.row (Keep.alloc [] _ _) (by simp)) ⟨wr.heap.size,0,none⟩ 1 1 [.int .i64 (d)] rfl rfl (yaR _ _ _) ?c2 (by decide) ?c3 ?c4 ?_)
     case c2=>first|(intro u hu;simp at hu;subst hu;rfl)|rfl
     case c3=>unfold maxLen;omega
     case c4=>omega
     intro g cap wa hoa hga hfa hda;have Hn:=jX (Hrow.out.step (d:=d) hoa hga hfa hda);clear hoa hga hfa hda;go_wp2_with fail;go_roundw
     case rel=>exact ⟨i+1,by omega,by go_num,by rw [He1.out];rfl,l++[d],by rw [Hsn.out,← Hl.out],Hn.out⟩
     case measure=>simp [intOf];omega
    obtain⟨e1,e2⟩:=hs2 hbr;have He1:=jX e1;have hbz:¬ (x:Int)-c-y<0:=by omega
    have hd2:(x:Int)-c-y=d:=by omega
    clear hs1 hs2 e1 e2;go_wp2_with (at_builtin;refine yao _ rfl _ _ 133 rfl 3 i0 _ 1 8 underlying133 Hi.out.1 Hi.out.2.1 Hi.out.2.2.1 Hi.out.2.2.2 rfl (by decide) _ _ _ rfl (yay Hrow.out.row (Keep.alloc [] _ _) (by simp)) ⟨wr.heap.size,0,none⟩ 1 1 [.int .i64 (d)] rfl rfl (yaR _ _ _) ?c2 (by decide) ?c3 ?c4 ?_)
    case c2=>first|(intro u hu;simp at hu;subst hu;rfl)|rfl
    case c3=>unfold maxLen;omega
    case c4=>omega
    intro g cap wa hoa hga hfa hda;have Hn:=jX (Hrow.out.step (d:=d) hoa hga hfa hda);clear hoa hga hfa hda;go_wp2_with fail;go_roundw
    case rel=>exact ⟨i+1,by omega,by go_num,by rw [He1.out];rfl,l++[d],by rw [Hsn.out,← Hl.out],Hn.out⟩
    case measure=>simp [intOf];omega
   have hy0:=Hzb.out i hb;rw [hy0] at hs1 hs2;generalize A / 256 ^ i % 256=x at *;generalize (A-B) / 256 ^ i % 256=d at *;generalize yaB 256 i A B=c at *;by_cases hbr:x<0+c
   ·obtain⟨e1,e2⟩:=hs1 hbr
    have He1:=jX e1;have hbz:(x:Int)-c<0:=by omega
    have hd2:(x:Int)-c+256=d:=by omega
    clear hs1 hs2 e1 e2 hy0;go_wp2_with (at_builtin;refine yao _ rfl _ _ 133 rfl 3 i0 _ 1 8 underlying133 Hi.out.1 Hi.out.2.1 Hi.out.2.2.1 Hi.out.2.2.2 rfl (by decide) _ _ _ rfl (yay Hrow.out.row (Keep.alloc [] _ _) (by simp)) ⟨wr.heap.size,0,none⟩ 1 1 [.int .i64 (d)] rfl rfl (yaR _ _ _) ?c2 (by decide) ?c3 ?c4 ?_)
    case c2=>first|(intro u hu;simp at hu;subst hu;rfl)|rfl
    case c3=>unfold maxLen;omega
    case c4=>omega
    intro g cap wa hoa hga hfa hda;have Hn:=jX (Hrow.out.step (d:=d) hoa hga hfa hda);clear hoa hga hfa hda;go_wp2_with fail;go_roundw
    case rel=>exact ⟨i+1,by omega,by go_num,by rw [He1.out];rfl,l++[d],by rw [Hsn.out,← Hl.out],Hn.out⟩
    case measure=>simp [intOf];omega
   obtain⟨e1,e2⟩:=hs2 hbr;have He1:=jX e1;have hbz:¬ (x:Int)-c<0:=by omega
   have hd2:(x:Int)-c=d:=by omega
   clear hs1 hs2 e1 e2 hy0;go_wp2_with (at_builtin;refine yao _ rfl _ _ 133 rfl 3 i0 _ 1 8 underlying133 Hi.out.1 Hi.out.2.1 Hi.out.2.2.1 Hi.out.2.2.2 rfl (by decide) _ _ _ rfl (yay Hrow.out.row (Keep.alloc [] _ _) (by simp)) ⟨wr.heap.size,0,none⟩ 1 1 [.int .i64 (d)] rfl rfl (yaR _ _ _) ?c2 (by decide) ?c3 ?c4 ?_)
   case c2=>first|(intro u hu;simp at hu;subst hu;rfl)|rfl
   case c3=>unfold maxLen;omega
   case c4=>omega
   intro g cap wa hoa hga hfa hda;have Hn:=jX (Hrow.out.step (d:=d) hoa hga hfa hda);clear hoa hga hfa hda;go_wp2_with fail;go_roundw
   case rel=>exact ⟨i+1,by omega,by go_num,by rw [He1.out];rfl,l++[d],by rw [Hsn.out,← Hl.out],Hn.out⟩
   case measure=>simp [intOf];omega
  obtain rfl:i=n:=by omega
  have hS:A-B<256 ^ i:=Nat.lt_of_le_of_lt (Nat.sub_le _ _) HLa.out;have HT:=jX (yiF wr _ l (by omega) Hrow.out.read Hrow.out.cap);have HS:=jX hS;clear hS;go_wp2_with fail;refine HT.out.mono ?_;rintro e w2 ⟨ht,rfl,hat⟩;obtain⟨v,rfl,hdr⟩:=ybe ht (by rw [Hl.out];exact yjg (by decide) _ _);rw [Hl.out,yfi (by decide) _ _ HS.out] at hdr;have Hdr:=jX hdr;have Hat:=jX (hat v rfl);clear ht hdr HT hat;dsimp only;go_wp2_with fail;go_ret
  exact ⟨v,rfl,Hdr.out,Hrow.out.keep,fun g hg=>Hrow.out.base g (by rw [← Hat.out];exact hg)⟩
theorem DR.past {w w':World} {v:Value} {N g0:Nat} (h:DR w v N) (hk:Keep [g0] w w') (hn:∀ g,v.ownBlock=some g→g≠g0):DR w' v N:=by
 refine ⟨?_,h.2⟩;rcases h.1 with h1|⟨g,o,c,rfl,hg,hc⟩
 ·exact .inl h1
 refine .inr ⟨g,o,c,rfl,Nat.lt_of_lt_of_le hg hk.size,fun i u hi=>?_⟩;have hne:g≠g0:=hn g rfl;exact (World.cell?_of_block (hk.block _ hg (by simpa using hne))).trans (hc i u hi)
theorem cmpN_ge {a b:Nat} (h:b≤a):¬ Lib.compareInt (a:Int) b<0:=by unfold Lib.compareInt;split<;>(try split)<;>omega
theorem cmpN_le {a b:Nat} (h:a≤b):Lib.compareInt (a:Int) b≤0:=by unfold Lib.compareInt;split<;>(try split)<;>omega
theorem yew (w:World) (v:Value):(w.alloc (.cells #[v] 3)).ownsRow 0 3 1 (.slice (some ⟨w.heap.size,0,none⟩) 1 1) 1 [v]:=by
 refine ⟨rfl,.inr ⟨w.heap.size,1,#[v],rfl,Nat.zero_le _,World.alloc_heap_new w _,Nat.le_refl _,by simp [maxLen],rfl,rfl⟩⟩
def qcell (w:World) (g i:Nat):Nat:=match w.cell? ⟨g,i,none⟩ with|some v=>(intOf v).toNat | none=>0
theorem ygv {w:World} {g i t:Nat} (h:w.cell? ⟨g,i,none⟩=some (.int .i64 (t:Int))):qcell w g i=t:=by
 unfold qcell;rw [h];simp [intOf]
theorem ybJ {w:World} {b i t:Nat} {l:List Nat} (h:w.heap[b]? = some (.cells (ints (l.set i t)).toArray 3 (0,0))) (hi:i<l.length):w.cell? ⟨b,i,none⟩=some (.int .i64 (t:Int)):=by
 rw [yaa h];simp [ints,hi]
theorem divide_m (w:World) (v1 v2:Value) (A B:Nat) (h1:DR w v1 A) (h2:DR w v2 B) (hA:Ln A≤100000000) (hA7:7<Ln A) (hBA:B≤A) (hB0:0<B) :
  Calls prog 173 #[v1,v2] w (DivPost w A B):=by
 obtain⟨i0,hi,hz0,hz1,hz2⟩:=yaQ infoInt;have Hi:=jX (And.intro hi (And.intro hz0 (And.intro hz1 hz2)));clear hi hz0 hz1 hz2;have hB:Ln B≤100000000:=Nat.le_trans (Ln_mono hBA) hA;have HS1:=jX (ydI w v1 A h1 (by omega));have HS2:=jX (ydI w v2 B h2 (by omega));have HC:=jX (yaT w v1 v2 A B h1 h2 (by omega) (by omega));have hcn:=cmpN_ge hBA;generalize Lib.compareInt (A:Int) B=c at *;have H1:=jX h1;have H2:=jX h2;obtain⟨ao,ac,rfl,_⟩:=h1.form;obtain⟨bo,bc,rfl,_⟩:=h2.form;have HA7:=jX hA7;obtain⟨n,hn⟩:∃ n,Ln A=n:=⟨_,rfl⟩;obtain⟨m,hm⟩:∃ m,Ln B=m:=⟨_,rfl⟩;have Hca:Hid (∀ w',Keep [] w w'→∀ i,i<n→∃ g o,ao=some ⟨g,o,none⟩∧g<w'.heap.size∧w'.cell? ⟨g,o+i,none⟩=some (.int .i64 ((A / 256 ^ i % 256:Nat):Int))):=fun w' hk i hi=>(h1.later hk).cell (by omega);have HLa:Hid (A<256 ^ n):=by rw [← hn];exact Ln_lt A
 have HLb:Hid (Ln B≤100000000):=hB;rw [hn] at hA HS1 HC H1 HA7 ⊢;rw [hm] at hB HS2 HC H2 ⊢;have HB0:=jX hB0;have HQn:Hid (A / B<256 ^ n):=Nat.lt_of_le_of_lt (Nat.div_le_self _ _) HLa.out;clear h1 h2 hA7 hBA hn hm hB0;go_enter func173,ntmps173
 go_wp2_with fail;refine HS1.out.mono ?_;rintro e w2 ⟨y1,f1,rfl,rfl,hf1⟩;obtain rfl:=hf1 HA7.out;dsimp only;clear HS1 hf1;go_wp2_with fail;refine HS2.out.mono ?_;rintro e w3 ⟨y2,f2,rfl,rfl,_⟩;dsimp only;clear HS2;go_wp2_with fail;refine HC.out.mono ?_;rintro e w4 ⟨rfl,hk⟩;have Hk:=jX hk;clear hk HC;dsimp only;have hmk:=ygA w4 n (by omega);go_wp2_with fail;go_loopw [5,10] (fun r x wr=>∃ j:Nat,j≤n∧x = .int .i64 ((j:Int)-1)∧DR wr r (A / 256 ^ j % B)∧Keep [] w3 wr∧wr.heap[w4.heap.size]? = some (.cells (ints (mixd 256 n j (A / B) 0)).toArray 3 (0,0))) (fun _ x _=>(intOf x+1).toNat)
 case atStart=>exact ⟨n,Nat.le_refl _,rfl,by rw [Nat.div_eq_of_lt HLa.out,Nat.zero_mod];exact yig _,Hk.out.tz (Keep.alloc _ _ _),by rw [ybp,ycK];exact World.alloc_heap_new w4 _⟩
 case round =>
  obtain⟨j,hj,rfl,hr,hkp,hbx⟩:=hrel;obtain⟨wo,rfl⟩:∃ wo:World,wo=wr:=⟨_,rfl⟩;have Hr:=jX hr;have Hkp:=jX hkp;have Hbx:=jX hbx;obtain⟨ro,rc,rfl,_⟩:=hr.form;clear hr hkp hbx hmk hcn;by_cases hj0:j=0
  ·subst hj0
   have hr0:A / 256 ^ 0 % B=A % B:=by rw [Nat.pow_zero,Nat.div_one]
   have HT:=jX (ydl wo _ (dl 256 n (A / B)) (by rw [yaP];omega) (yfA (by rw [← ybn 256 n (A / B) 0];exact Hbx.out) (yaP _ _ _)) ygN);go_wp2_with fail;refine HT.out.mono ?_;rintro e w5 ⟨ht,rfl⟩;obtain⟨v,rfl,hdr⟩:=ybe ht (yjg (by decide) _ _);rw [yfi (by decide) _ _ HQn.out] at hdr;have Hdr:=jX hdr;clear ht hdr HT;dsimp only;go_wp2_with fail;go_ret2
   exact ⟨_,_,rfl,Hdr.out,by rw [← hr0];exact Hr.out,Hkp.out⟩
  obtain⟨i,rfl⟩:∃ i,j=i+1:=⟨j-1,by omega⟩;rw [show (((i+1:Nat):Int)-1)=(i:Int) by omega]
  have hin:i<n:=by omega
  obtain⟨g1,o1,rfl,hg1,c1⟩:=Hca.out wo Hkp.out i hin;have d9:=Nat.mod_lt (A / 256 ^ i) (show 0<256 by decide)
  have HR:=jX (@dv_rem A B i HB0.out);have HQ:=jX (@dv_quo A B i HB0.out);have HBd:=jX (@dv_bound A B i HB0.out);have hRB:A / 256 ^ (i+1) % B<B:=Nat.mod_lt _ HB0.out;have HLr:Hid (Ln (A / 256 ^ (i+1) % B)≤100000000):=Nat.le_trans (Ln_mono (Nat.le_of_lt hRB)) HLb.out;clear hRB hj0;generalize A / 256 ^ (i+1) % B=R at *;generalize A / 256 ^ i % 256=d at *;obtain⟨q,hq⟩:∃ q,Ln R=q:=⟨_,rfl⟩;have hlq:(ints (digs 256 R)).length=q:=by rw [ybi];exact hq
  have hq9:q≤100000000:=by rw [← hq];exact HLr.out
  rw [hq] at Hr ⊢;go_wp2_with (at_builtin;refine ydG _ rfl _ _ 133 rfl 3 i0 _ 8 underlying133 Hi.out.1 Hi.out.2.1 Hi.out.2.2.1 Hi.out.2.2.2 rfl _ 1 [.int .i64 (d:Int)] rfl (yew _ _) (by decide) _ (ints (digs 256 R)) rfl (Hr.out.1.keep0 (Keep.alloc _ _ _)) (ints_one _) ?c3 ?c4 ?_)
  case c3=>rw [hlq];unfold maxLen;omega
  case c4=>rw [hlq];omega
  intro v' wa hoa hga hda;try rw [hlq] at hoa
  have hka:Keep [] wo wa:=(Keep.alloc _ _ _).grownPast hga hda (fun k hk=>by simp [Value.ownBlock] at hk;omega);have Hoa:=jX hoa;have Hka:=jX hka;obtain⟨po,pc,rfl⟩:=yet hoa;have hrow:RowR wa (.slice po (1+q) pc) (ints (d :: digs 256 R)):=RowR.of_own hoa;have HT:=jX (ydl wa _ (d :: digs 256 R) (by rw [List.length_cons];have:(digs 256 R).length=q:=hq;omega) hrow (yhV hoa));clear hoa hga hda hka hrow c1;go_wp2_with fail;refine HT.out.mono ?_;rintro e w5 ⟨ht,rfl⟩
  obtain⟨v,rfl,hdr⟩:=ybe ht (by
   intro x hx;rcases List.mem_cons.1 hx with rfl|hx
   ·exact d9
   exact ygb (by decide) R x hx)
  have hval:val 256 (d :: digs 256 R)=256*R+d:=by
   have h:=yca (B:=256) (by decide) R;rw [val,h];omega
  rw [hval] at hdr;obtain⟨R0,hR0⟩:∃ R0,256*R+d=R0:=⟨_,rfl⟩;rw [hR0] at hdr HR HQ HBd;have Hdr:=jX hdr;clear ht hdr HT hval Hoa hR0 Hr hlq hq hq9 HLr;dsimp only;go_wp2_with fail;have Hkp5:=jX (Hkp.out.tz Hka.out);have Hbx5:=jX (Hka.out.heap Hbx.out (by simp));clear Hkp Hbx Hka;go_loopw [5] (fun rv wr=>∃ t R':Nat,t≤255∧R'+t*B=R0∧DR wr rv R'∧Keep [] w3 wr∧wr.heap[w4.heap.size]? = some (.cells (ints ((mixd 256 n (i+1) (A / B) 0).set i t)).toArray 3 (0,0))) (fun _ wr=>256-qcell wr w4.heap.size i)
  case atStart=>exact ⟨0,R0,by omega,by omega,Hdr.out,Hkp5.out,by rw [mixd_set0];exact Hbx5.out⟩
  case round =>
   obtain⟨t,R',ht,hRt,hdr,hkw,hbw⟩:=hrel;have HdR:=jX hdr;have hRle:R'≤R0:=by omega
   have HC:=jX (yaT wr _ _ R' B hdr (H2.out.later hkw) (by
    have h1:=Ln_mono hRle;have h2:=Ln_mono (Nat.le_of_lt HBd.out);have h3:=Ln_mul 256 B;have h4:Ln 256≤2:=Ln_le.2 (by decide);have:=HLb.out
    omega) (by have:=HLb.out;omega))
   have HLR:Hid (Ln R'≤200000000):=by
    have h1:=Ln_mono hRle;have h2:=Ln_mono (Nat.le_of_lt HBd.out);have h3:=Ln_mul 256 B;have h4:Ln 256≤2:=Ln_le.2 (by decide);have:=HLb.out;show Ln R'≤200000000
    omega
   have hmx:i<(mixd 256 n (i+1) (A / B) 0).length:=by rw [yhZ];exact hin
   obtain⟨xo,xc,rfl,_⟩:=hdr.form;have HRt:=jX hRt;have Hmx:=jX hmx;have Hkw:=jX hkw;have Hbw:=jX hbw;have HtA:=jX ht;have hbz:=yab hbw;have Hq0:=jX (ygv (ybJ hbw hmx));clear hRle hdr hkw hbw hmx hRt;by_cases hlt:R'<B
   ·rw [ygx hlt] at HC
    obtain⟨e1,e2⟩:=dv_end HB0.out HRt.out hlt;rw [e1] at HQ;rw [e2] at HR;clear e1 e2;go_wp2_with fail;refine HC.out.mono ?_;rintro e w6 ⟨rfl,hk⟩;have Hk6:=jX hk;clear hk HC;dsimp only;go_wp2_with fail;go_roundw
    case rel=>exact ⟨i,by omega,rfl,by rw [HR.out];exact HdR.out.later Hk6.out,Hkw.out.tz Hk6.out,by rw [← ydy (Q:=A / B) hin,HQ.out];exact Hk6.out.heap Hbw.out (by simp)⟩
    case measure=>simp [intOf]
   have ht9:t<255:=by
    rcases Nat.lt_or_ge t 255 with h|h
    ·exact h
    obtain rfl:t=255:=by omega
    exact absurd (dv_last HRt.out HBd.out) hlt
   have hcg:=cmpN_ge (show B≤R' by omega)
   have htd:decide ((t:Int)<255)=true:=by simp;omega
   have HBR:Hid (B≤R'):=by show B≤R';omega
   generalize Lib.compareInt (R':Int) B=c' at *;have hcg2:(0:Int)≤c':=by omega
   clear hlt;go_wp2_with fail;refine HC.out.mono ?_;rintro e w6 ⟨rfl,hk⟩;have Hb6:=jX (hk.heap Hbw.out (by simp));have hcq:=ybJ Hb6.out Hmx.out;have hb6:=yab Hb6.out;have hb6f:=yaf Hb6.out;have HdR6:=jX (HdR.out.later hk);have Hk6:=jX (Hkw.out.tz hk);clear hk HC HdR Hkw Hbw hbz;dsimp only;go_wp2_with fail;go_loopw [11,12] (fun sv pv wr=>∃ s:Nat,sv = .int .i64 (s:Int)∧1≤s∧s≤128∧s*B≤R'∧DR wr pv (s*B)∧Keep [] w6 wr) (fun sv _ _=>256-(intOf sv).toNat)
   case atStart=>exact ⟨1,rfl,by omega,by omega,by rw [Nat.one_mul];exact HBR.out,by rw [Nat.one_mul];exact H2.out.later Hk6.out,Keep.refl _ _⟩
   case round =>
    obtain⟨s,rfl,hs1,hs2,hsB,hdp,hk7⟩:=hrel;have hLs:Ln (s*B)≤200000000:=Nat.le_trans (Ln_mono hsB) HLR.out;obtain⟨yo,yc,rfl,_⟩:=hdp.form;have HsB:=jX hsB;have HkV:=jX hk7;have HdpV:=jX hdp;have HP:=jX (yfE wr _ _ _ _ hdp hdp (by omega) (by omega));clear hsB hk7 hdp hcq hb6 hb6f;by_cases h2s:2*s≤128
    ·go_wp2_with fail
     refine HP.out.mono ?_;rintro e w8 ⟨pv,rfl,hd8,hk8⟩;have HC8:=jX (yaT w8 _ _ _ _ hd8 ((HdR6.out.later HkV.out).later hk8) (by have:=Ln_add (s*B) (s*B);omega) (by have:=HLR.out;omega));obtain⟨qo,qc,rfl,_⟩:=hd8.form;have Hk8:=jX hk8;clear HP hk8 hd8;dsimp only;by_cases hle:s*B+s*B≤R'
     ·have hcl:=cmpN_le hle
      generalize Lib.compareInt ((s*B+s*B:Nat):Int) (R':Int)=c8 at *;go_wp2_with fail;refine HC8.out.mono ?_;rintro e w9 ⟨rfl,hk9⟩;have Hk9:=jX ((HkV.out.tz Hk8.out).tz hk9);have Hdp9:=jX ((HdpV.out.later Hk8.out).later hk9);have HP9:=jX (yfE w9 _ _ _ _ Hdp9.out Hdp9.out (by omega) (by omega));have Hle:=jX hle;clear hk9 HC8 hle;dsimp only;go_wp2_with fail;refine HP9.out.mono ?_;rintro e wx ⟨qv,rfl,hdx,hkx⟩;have Hdx:=jX hdx;have Hkx:=jX hkx;clear HP9 hdx hkx;dsimp only;go_wp2_with fail;go_roundw
      case rel =>
       exact ⟨2*s,by go_num,by omega,by omega,by have:=Hle.out;rw [Nat.mul_assoc];omega,by rw [show 2*s*B=s*B+s*B by rw [Nat.mul_assoc];omega];exact Hdx.out,Hk9.out.tz Hkx.out⟩
      case measure=>simp [intOf];omega
     have hcl:=yhI (show R'<s*B+s*B by omega)
     rw [hcl] at HC8;clear hcl hle;go_wp2_with fail;refine HC8.out.mono ?_;rintro e w9 ⟨rfl,hk9⟩;have HkV:=jX ((HkV.out.tz Hk8.out).tz hk9);have HdpV:=jX ((HdpV.out.later Hk8.out).later hk9);clear hk9 HC8;dsimp only;go_wp2_with fail;have HSk:Hid (∀ W',Keep [] w9 W'→W'.cell? ⟨w4.heap.size,i,none⟩=some (.int .i64 (t:Int))):=fun W' hk=>ybJ ((HkV.out.tz hk).heap Hb6.out (by simp)) Hmx.out
     have HM:Hid (∀ W',Keep [] w9 W'→Calls prog 141 #[.slice xo (Ln R') xc,.slice yo (Ln (s*B)) yc] W' (DigitsN W' (R'-s*B))):=fun W' hk =>
      yil W' _ _ R' (s*B) (HdR6.out.later (HkV.out.tz hk)) (HdpV.out.later hk) (by have:=HLR.out;omega) HsB.out
     have Hk6V:=jX (Hk6.out.tz HkV.out);refine yaj (S:=fun W'=>W'.cell? ⟨w4.heap.size,i,none⟩=some (.int .i64 (t:Int))) 13 (by kernel_rfl) (by kernel_rfl) (fun _ _ d _ _ h=>by cases d<;>exact h) ?_;have hk0:=Keep.drew [] w9;have hS0:=HSk.out _ hk0;have hb0:=yab ((HkV.out.tz hk0).heap Hb6.out (by simp));generalize World.drew w9=u0 at *;refine' jV (v:=_) 0 hS0 (fun w hw=>?hA0) (fun K hK=>?kA0)
     case hA0=>(go_simp;try rfl)
     go_simp;refine hK _ ?_;clear hK K;refine' jV (v:=_) 1 hS0 (fun w hw=>?hA1) (fun K hK=>?kA1)
     case hA1=>(go_simp;try rfl)
     go_simp;refine hK _ ?_;clear hK K;refine' jV (v:=_) 2 hS0 (fun w hw=>?hA2) (fun K hK=>?kA2)
     case hA2=>(go_simp;try rfl)
     go_simp;refine hK _ ?_;clear hK K;refine' jV (v:=_) 3 hS0 (fun w hw=>?hA3) (fun K hK=>?kA3)
     case hA3=>(go_simp;try rfl)
     go_simp;refine hK _ ?_;clear hK K;refine' jV (v:=_) 5 hS0 (fun w hw=>?hA5) (fun K hK=>?kA5)
     case hA5=>(go_simp;try rfl)
     go_simp;refine hK _ ?_;clear hK K;refine' jV (v:=_) 6 hS0 (fun w hw=>?hA6) (fun K hK=>?kA6)
     case hA6=>(go_simp;try rfl)
     go_simp;refine hK _ ?_;clear hK K;refine' jV (v:=_) 7 hS0 (fun w hw=>?hA7) (fun K hK=>?kA7)
     case hA7=>(go_simp;try rfl)
     go_simp;refine hK _ ?_;clear hK K;refine' jV (v:=_) 8 hS0 (fun w hw=>?hA8) (fun K hK=>?kA8)
     case hA8=>(go_simp;try rfl)
     go_simp;refine hK _ ?_;clear hK K;refine' jV (v:=_) 9 hS0 (fun w hw=>?hA9) (fun K hK=>?kA9)
     case hA9=>(go_simp;try rfl)
     go_simp;refine hK _ ?_;clear hK K;refine' jV (v:=_) 10 hS0 (fun w hw=>?hA10) (fun K hK=>?kA10)
     case hA10=>(go_simp;try rfl)
     go_simp;refine hK _ ?_;clear hK K;refine jO 4 (fun K hK=>?_);refine yae 141 #[.slice xo (Ln R') xc,.slice yo (Ln (s*B)) yc] (by go_simp) ?_;refine (HM.out _ hk0).mono ?_;rintro e u1 ⟨z1,rfl,hd1,hk1,hn1⟩;have HN:Hid (∀ g,z1.ownBlock=some g→g≠w4.heap.size):=fun g hg=>by have:=hn1 g hg;omega
     clear hn1;have hk2:=hk0.tz hk1;have hS0:=HSk.out _ hk2;refine ⟨_,rfl,?_⟩;refine hK _ _ hS0 ?_;clear hK K;refine' jV (v:=_) 11 hS0 (fun w hw=>?hA11) (fun K hK=>?kA11)
     case hA11=>(go_simp;try rfl)
     go_simp;refine hK _ ?_;clear hK K;refine' jV (v:=_) 12 hS0 (fun w hw=>?hA12) (fun K hK=>?kA12)
     case hA12=>(go_simp;try rfl)
     go_simp;refine hK _ ?_;clear hK K;refine ⟨by kernel_rfl,?_⟩;simp only [List.drop_succ_cons,List.drop_zero];have hbu:=(HkV.out.tz hk2).heap Hb6.out (by simp);have Hbu:=jX hbu;have hlu:=yab hbu;have hfu:=yaf hbu;have Hku:=jX ((Hk6.out.tz HkV.out).tz hk2);have Hd1:=jX hd1;have hrm:=dv_room HB0.out HRt.out HBd.out HsB.out;have HkS:=jX (Hk.out.size)
     have hset:((u1.setCell ⟨w4.heap.size,i,none⟩ (.int .i64 ((t+s:Nat):Int))).heap[w4.heap.size]?)=some (.cells (ints ((mixd 256 n (i+1) (A / B) 0).set i (t+s))).toArray 3 (0,0)):=by
      rw [set_same Hbu.out,List.setIfInBounds_toArray,ints_set,List.set_set]
     have Hset:=jX hset;clear hbu hd1 hk0 hk1 hk2 hset HM HSk;go_wp2_with fail;rw [show ((t:Int)+(s:Int))=((t+s:Nat):Int) by omega]
     go_roundw
     case rel =>
      refine ⟨t+s,R'-s*B,by omega,?_,?_,Hku.out.sP _ _ _ HkS.out,Hset.out⟩
      ·have h1:=HRt.out
       have h2:=HsB.out;rw [Nat.add_mul];omega
      exact Hd1.out.past (Keep.setCell _ _ _ _ _ (by simp)) HN.out
     case measure =>
      rw [ygv (ybJ Hset.out Hmx.out),Hq0.out];omega
    go_wp2_with fail;have HSk:Hid (∀ W',Keep [] wr W'→W'.cell? ⟨w4.heap.size,i,none⟩=some (.int .i64 (t:Int))):=fun W' hk=>ybJ ((HkV.out.tz hk).heap Hb6.out (by simp)) Hmx.out
    have HM:Hid (∀ W',Keep [] wr W'→Calls prog 141 #[.slice xo (Ln R') xc,.slice yo (Ln (s*B)) yc] W' (DigitsN W' (R'-s*B))):=fun W' hk =>
     yil W' _ _ R' (s*B) (HdR6.out.later (HkV.out.tz hk)) (HdpV.out.later hk) (by have:=HLR.out;omega) HsB.out
    have Hk6V:=jX (Hk6.out.tz HkV.out);refine yaj (S:=fun W'=>W'.cell? ⟨w4.heap.size,i,none⟩=some (.int .i64 (t:Int))) 13 (by kernel_rfl) (by kernel_rfl) (fun _ _ d _ _ h=>by cases d<;>exact h) ?_;have hk0:=Keep.drew [] wr;have hS0:=HSk.out _ hk0;have hb0:=yab ((HkV.out.tz hk0).heap Hb6.out (by simp));generalize World.drew wr=u0 at *;refine' jV (v:=_) 0 hS0 (fun w hw=>?hB0) (fun K hK=>?kB0)
    case hB0=>(go_simp;try rfl)
    go_simp;refine hK _ ?_;clear hK K;refine' jV (v:=_) 1 hS0 (fun w hw=>?hB1) (fun K hK=>?kB1)
    case hB1=>(go_simp;try rfl)
    go_simp;refine hK _ ?_;clear hK K;refine' jV (v:=_) 2 hS0 (fun w hw=>?hB2) (fun K hK=>?kB2)
    case hB2=>(go_simp;try rfl)
    go_simp;refine hK _ ?_;clear hK K;refine' jV (v:=_) 3 hS0 (fun w hw=>?hB3) (fun K hK=>?kB3)
    case hB3=>(go_simp;try rfl)
    go_simp;refine hK _ ?_;clear hK K;refine' jV (v:=_) 5 hS0 (fun w hw=>?hB5) (fun K hK=>?kB5)
    case hB5=>(go_simp;try rfl)
    go_simp;refine hK _ ?_;clear hK K;refine' jV (v:=_) 6 hS0 (fun w hw=>?hB6) (fun K hK=>?kB6)
    case hB6=>(go_simp;try rfl)
    go_simp;refine hK _ ?_;clear hK K;refine' jV (v:=_) 7 hS0 (fun w hw=>?hB7) (fun K hK=>?kB7)
    case hB7=>(go_simp;try rfl)
    go_simp;refine hK _ ?_;clear hK K;refine' jV (v:=_) 8 hS0 (fun w hw=>?hB8) (fun K hK=>?kB8)
    case hB8=>(go_simp;try rfl)
    go_simp;refine hK _ ?_;clear hK K;refine' jV (v:=_) 9 hS0 (fun w hw=>?hB9) (fun K hK=>?kB9)
    case hB9=>(go_simp;try rfl)
    go_simp;refine hK _ ?_;clear hK K;refine' jV (v:=_) 10 hS0 (fun w hw=>?hB10) (fun K hK=>?kB10)
    case hB10=>(go_simp;try rfl)
    go_simp;refine hK _ ?_;clear hK K;refine jO 4 (fun K hK=>?_);refine yae 141 #[.slice xo (Ln R') xc,.slice yo (Ln (s*B)) yc] (by go_simp) ?_;refine (HM.out _ hk0).mono ?_;rintro e u1 ⟨z1,rfl,hd1,hk1,hn1⟩;have HN:Hid (∀ g,z1.ownBlock=some g→g≠w4.heap.size):=fun g hg=>by have:=hn1 g hg;omega
    clear hn1;have hk2:=hk0.tz hk1;have hS0:=HSk.out _ hk2;refine ⟨_,rfl,?_⟩;refine hK _ _ hS0 ?_;clear hK K;refine' jV (v:=_) 11 hS0 (fun w hw=>?hB11) (fun K hK=>?kB11)
    case hB11=>(go_simp;try rfl)
    go_simp;refine hK _ ?_;clear hK K;refine' jV (v:=_) 12 hS0 (fun w hw=>?hB12) (fun K hK=>?kB12)
    case hB12=>(go_simp;try rfl)
    go_simp;refine hK _ ?_;clear hK K;refine ⟨by kernel_rfl,?_⟩;simp only [List.drop_succ_cons,List.drop_zero];have hbu:=(HkV.out.tz hk2).heap Hb6.out (by simp);have Hbu:=jX hbu;have hlu:=yab hbu;have hfu:=yaf hbu;have Hku:=jX ((Hk6.out.tz HkV.out).tz hk2);have Hd1:=jX hd1;have hrm:=dv_room HB0.out HRt.out HBd.out HsB.out;have HkS:=jX (Hk.out.size)
    have hset:((u1.setCell ⟨w4.heap.size,i,none⟩ (.int .i64 ((t+s:Nat):Int))).heap[w4.heap.size]?)=some (.cells (ints ((mixd 256 n (i+1) (A / B) 0).set i (t+s))).toArray 3 (0,0)):=by
     rw [set_same Hbu.out,List.setIfInBounds_toArray,ints_set,List.set_set]
    have Hset:=jX hset;clear hbu hd1 hk0 hk1 hk2 hset HM HSk;go_wp2_with fail;rw [show ((t:Int)+(s:Int))=((t+s:Nat):Int) by omega]
    go_roundw
    case rel =>
     refine ⟨t+s,R'-s*B,by omega,?_,?_,Hku.out.sP _ _ _ HkS.out,Hset.out⟩
     ·have h1:=HRt.out
      have h2:=HsB.out;rw [Nat.add_mul];omega
     exact Hd1.out.past (Keep.setCell _ _ _ _ _ (by simp)) HN.out
    case measure =>
     rw [ygv (ybJ Hset.out Hmx.out),Hq0.out];omega
theorem yel (w:World) (v1 v2:Value) (A B:Nat) (h1:DR w v1 A) (h2:DR w v2 B) (hA:Ln A≤100000000) (hB:Ln B≤100000000) (hB0:0<B) :
  Calls prog 173 #[v1,v2] w (DivPost w A B):=by
 by_cases h:Ln A≤7∧Ln B≤7
 ·exact divide_s w v1 v2 A B h1 h2 h.1 h.2 hB0
 rcases Nat.lt_or_ge A B with hAB|hAB
 ·have:=Ln_mono (Nat.le_of_lt hAB)
  exact divide_l w v1 v2 A B h1 h2 (by omega) (by omega) (by omega) hAB
 have:=Ln_mono hAB;exact divide_m w v1 v2 A B h1 h2 hA (by omega) hAB hB0
end Go.Proofs.YtejegogbhpmgfaaGreatDoor
