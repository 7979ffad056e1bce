/- Parts of a proof: Rp Rr Rs Rt. -/
import Derived.Laws.AppendOwnNone
import Derived.Test.YtejegogbhpmgfaaGreatDoorG18
import Derived.Test.YtejegogbhpmgfaaGreatDoorG05
import Derived.Test.YtejegogbhpmgfaaGreatDoorG06
import Derived.Test.YtejegogbhpmgfaaGreatDoorG10
set_option linter.unusedVariables false
set_option linter.unusedSimpArgs false
set_option maxRecDepth 100000
set_option maxHeartbeats 8000000
namespace Go.Proofs.YtejegogbhpmgfaaGreatDoor
open Go.RowKit Tryz
theorem large_c (w:World) (N:Nat) (hN:N≤9223372036854775807) :
  Calls prog 195 #[.int .i64 (N:Int)] w (Digits w N):=by
 obtain⟨i0,hi,hz0,hz1,hz2⟩:=yaQ infoInt;have Hi:=jX (And.intro hi (And.intro hz0 (And.intro hz1 hz2)));clear hi hz0 hz1 hz2;go_enter func195,ntmps195
 go_wp2_with fail;go_loopw [0,3] (fun x b wr=>∃ k:Nat,k≤N∧x = .int .i64 (k:Int)∧∃ l,l++digs 256 k=digs 256 N∧l.length≤1000000000∧OI w wr b l) (fun x _ _=>(intOf x).toNat)
 case atStart=>exact ⟨N,Nat.le_refl _,rfl,[],rfl,by simp,OI.nil _⟩
 case round =>
  obtain⟨k,hk,rfl,l,hl,hl9,hoi⟩:=hrel;have Hrow:=jX hoi;obtain⟨po,pc,rfl⟩:=hoi.form;have Hl:=jX hl;clear hl hoi;by_cases hk0:k=0
  ·subst hk0
   have hfin:l=digs 256 N:=by have:=Hl.out;rwa [yaU,List.append_nil] at this
   have HR:Hid (DR wr (.slice po l.length pc) N):=by
    refine ⟨?_,Hrow.out.cap⟩;rw [← hfin];exact Hrow.out.read
   clear hfin;go_wp2_with fail;go_ret
   exact ⟨_,rfl,HR.out,Hrow.out.keep⟩
  have hkp:0<k:=by omega
  have hpos:=ybl (B:=256) (by decide) hkp
  have hl2:l.length<1000000000:=by
   have h1:l.length≤Ln N:=by
    have h2:(l++digs 256 k).length=(digs 256 N).length:=congrArg List.length Hl.out;rw [List.length_append] at h2;show _≤(digs 256 N).length
    omega
   have h3:Ln N≤8:=Ln_le.2 (by omega);omega
  have Hpos:=jX hpos;obtain⟨d,hd⟩:∃ d,k % 256=d:=⟨_,rfl⟩;rw [hd] at Hpos;have hd2:(k:Int) % 256=(d:Int):=by omega
  have hd9:d≤255:=by omega
  clear hpos hd hl9;go_wp2_with (at_builtin;refine yao _ rfl _ _ 133 rfl 3 i0 _ 1 8 underlying133 Hi.out.1 Hi.out.2.1 Hi.out.2.2.1 Hi.out.2.2.2 rfl (by decide) _ _ _ rfl (yay Hrow.out.row (Keep.alloc [] _ _) (by simp)) ⟨wr.heap.size,0,none⟩ 1 1 [.int .i64 (d)] rfl rfl (yaR _ _ _) ?c2 (by decide) ?c3 ?c4 ?_)
  case c2=>first|(intro u hu;simp at hu;subst hu;rfl)|rfl
  case c3=>unfold maxLen;omega
  case c4=>omega
  intro g cap wa hoa hga hfa hda;have Hn:=jX (Hrow.out.step (d:=d) hoa hga hfa hda);clear hoa hga hfa hda;go_wp2_with fail;go_roundw
  case rel=>exact ⟨k / 256,by omega,congrArg (Value.int .i64) (by omega),l++[d],by rw [List.append_assoc,List.singleton_append,← Hpos.out];exact Hl.out,by rw [List.length_append];simp;omega,Hn.out⟩
  case measure=>simp [intOf];omega
theorem small_no (w:World) (v:Value) (N:Nat) (h:DR w v N) (h7:7<Ln N) (h9:Ln N≤1000000000) :
  Calls prog 194 #[v] w fun e w'=>e = .returned (.tuple #[.int .i64 0,.bool false])∧w'=w:=by
 obtain⟨ao,ac,rfl,_⟩:=h.form;clear h;generalize Ln N=n at *;go_enter func194,ntmps194
 go_wp2_with fail;go_ret2
 exact ⟨rfl,rfl⟩
theorem ygw (w:World) (v:Value) (N:Nat) (h:DR w v N) (h7:Ln N≤7) :
  Calls prog 194 #[v] w fun e w'=>e = .returned (.tuple #[.int .i64 (N:Int),.bool true])∧w'=w:=by
 obtain⟨ao,ac,rfl,_⟩:=h.form;obtain⟨n,hn⟩:∃ n,Ln N=n:=⟨_,rfl⟩;have Hca:Hid (∀ i,i<n→∃ g o,ao=some ⟨g,o,none⟩∧g<w.heap.size∧w.cell? ⟨g,o+i,none⟩=some (.int .i64 ((N / 256 ^ i % 256:Nat):Int))):=fun i hi=>h.cell (by omega);have HL:Hid (N<256 ^ n):=by rw [← hn];exact Ln_lt N
 rw [hn] at h7 ⊢;clear h hn;have hN:N<72057594037927936:=Nat.lt_of_lt_of_le HL.out (Nat.le_trans (Nat.pow_le_pow_right (by decide) h7) (by decide));go_enter func194,ntmps194
 go_wp2_with fail;go_loop [4,5] (fun s x=>∃ j:Nat,j≤n∧x = .int .i64 ((j:Int)-1)∧s = .int .i64 ((N / 256 ^ j:Nat):Int)) (fun _ x=>(intOf x+1).toNat)
 case atStart=>exact ⟨n,Nat.le_refl _,rfl,by rw [Nat.div_eq_of_lt HL.out];rfl⟩
 case round =>
  obtain⟨j,hj,rfl,rfl⟩:=hrel;by_cases hj0:j=0
  ·subst hj0
   rw [Nat.pow_zero,Nat.div_one];go_wp2_with fail;go_ret2
   exact ⟨rfl,rfl⟩
  obtain⟨i,rfl⟩:∃ i,j=i+1:=⟨j-1,by omega⟩;rw [show (((i+1:Nat):Int)-1)=(i:Int) by omega]
  obtain⟨g1,o1,rfl,hg1,c1⟩:=Hca.out i (by omega);have e:N / 256 ^ i=256*(N / 256 ^ (i+1))+N / 256 ^ i % 256:=by rw [Nat.pow_succ,← Nat.div_div_eq_div_mul,Nat.div_add_mod]
  have hle:=Nat.div_le_self N (256 ^ i);have hin:i<n:=by omega
  have He:=jX e;have x9:=Nat.mod_lt (N / 256 ^ i) (show 0<256 by decide)
  have hb:N / 256 ^ (i+1)*256+N / 256 ^ i % 256<72057594037927936:=by omega
  clear e hle hj0;generalize N / 256 ^ i % 256=x at *;generalize N / 256 ^ (i+1)=t at *;go_wp2_with fail;go_round
  case rel=>exact ⟨i,by omega,rfl,by rw [He.out];exact congrArg (Value.int .i64) (by omega)⟩
  case measure=>simp [intOf]
theorem ints_set (l:List Nat) (i d:Nat):(ints l).set i (.int .i64 (d:Int))=ints (l.set i d):=by simp [ints,List.map_set]
theorem yfc {w:World} {b L i X S:Nat} (h:w.heap[b]? = some (.cells (ints (mixd 256 L i X S)).toArray 3 (0,0))) (hi:i<L):w.cell? ⟨b,i,none⟩=some (.int .i64 ((X / 256 ^ i % 256:Nat):Int)):=by
 rw [yaa h];have:=yiT 256 L i X S hi;simp [ints,this]
theorem made_int (n:Nat):madeCells (Value.int .i64 0).cells n=(ints (List.replicate n 0)).toArray:=by
 unfold madeCells;apply Array.ext
 ·simp [ints]
 intro i h1 h2;simp [ints,Value.cells,Nat.mod_one]
theorem ygA (w:World) (n:Nat) (hn:n≤10000000000000):(Instr.makeSlice 133 (.int .i64 (n:Int)) (.int .i64 (n:Int))).run prog w = .ok (.slice (some ⟨w.heap.size,0,none⟩) n n) (w.alloc (.cells (ints (List.replicate n 0)).toArray 3)):=by
 obtain⟨i0,hi,hz0,hz1,hz2⟩:=yaQ infoInt;have hm:=run_make (P:=prog) w 133 3 i0 _ underlying133 hi hz0 .i64 .i64 (n:Int) (n:Int) (by omega) (by omega) (by rw [hz2];omega) (by omega);rw [Int.toNat_natCast,hz1,Nat.mul_one,made_int] at hm;exact hm
theorem yfA {w:World} {g L:Nat} {l:List Nat} {t:TypeId} (h:w.heap[g]? = some (.cells (ints l).toArray t (0,0))) (hL:l.length=L):RowR w (.slice (some ⟨g,0,none⟩) L L) (ints l):=by
 subst hL;refine .inr ⟨g,0,l.length,by rw [ybi],yab h,fun i v hi=>?_⟩;rw [yaa h,Nat.zero_add]
 simpa using hi
theorem ygN {g L:Nat}:CapOk (.slice (some ⟨g,0,none⟩) L L):=by
 intro a n c e;injection e with _ e2 e3;omega
theorem prod_done {i m k A B x:Nat} (hA:A<256 ^ (i+m)) (hB:B<256 ^ m) (hk:m≤k) (hc:yaz 256 k (A / 256 ^ i) x B=0):A<256 ^ (i+k)∧A+256 ^ i*(x*B)<256 ^ (i+k):=by
 have h1:256 ^ (i+m)≤256 ^ (i+k):=Nat.pow_le_pow_right (by decide) (by omega);refine ⟨by omega,?_⟩
 have h2:(A+256 ^ i*(x*B)) / 256 ^ (i+k)=0:=by
  rw [yaA,yeq (by decide),yeQ (by decide),hc];have h3:B / 256 ^ k=0:=Nat.div_eq_of_lt (Nat.lt_of_lt_of_le hB (Nat.pow_le_pow_right (by decide) hk));have h4:A / 256 ^ i / 256 ^ k=0:=by rw [← yaA];exact Nat.div_eq_of_lt (by omega)
  rw [h3,h4];simp
 rcases Nat.lt_or_ge (A+256 ^ i*(x*B)) (256 ^ (i+k)) with h|h
 ·exact h
 have:=Nat.div_pos h (Nat.pow_pos (show 0<256 by decide))
 omega
theorem prod_zero {i m A B x:Nat} (hA:A<256 ^ (i+m)) (hB:B<256 ^ m) (hx:x<256):yaz 256 (m+1) (A / 256 ^ i) x B=0:=by
 have hU:A / 256 ^ i<256 ^ m:=by rw [Nat.div_lt_iff_lt_mul (Nat.pow_pos (by decide)),← Nat.pow_add,Nat.add_comm];exact hA
 unfold yaz;have h1:256 ^ m≤256 ^ (m+1):=Nat.pow_le_pow_right (by decide) (by omega);rw [Nat.mod_eq_of_lt (by omega),Nat.mod_eq_of_lt (by omega)];apply Nat.div_eq_of_lt;rw [Nat.pow_succ];have h2:x*B≤255*B:=Nat.mul_le_mul_right _ (by omega);omega
theorem ybM (w:World) (v1 v2:Value) (X B:Nat) (h1:DR w v1 X) (h2:DR w v2 B) (hX:Ln X≤1000000000) (hB:Ln B≤1000000000) :
  Calls prog 137 #[v1,v2] w (Digits w (X*B)):=by
 obtain⟨ao,ac,rfl,_⟩:=h1.form;obtain⟨bo,bc,rfl,_⟩:=h2.form;obtain⟨n,hn⟩:∃ n,Ln X=n:=⟨_,rfl⟩;obtain⟨m,hm⟩:∃ m,Ln B=m:=⟨_,rfl⟩;have Hca:Hid (∀ w',Keep [] w w'→∀ i,i<n→∃ g o,ao=some ⟨g,o,none⟩∧g<w'.heap.size∧w'.cell? ⟨g,o+i,none⟩=some (.int .i64 ((X / 256 ^ i % 256:Nat):Int))):=fun w' hk i hi=>(h1.later hk).cell (by omega);have Hcb:Hid (∀ w',Keep [] w w'→∀ i,i<m→∃ g o,bo=some ⟨g,o,none⟩∧g<w'.heap.size∧w'.cell? ⟨g,o+i,none⟩=some (.int .i64 ((B / 256 ^ i % 256:Nat):Int))):=fun w' hk i hi=>(h2.later hk).cell (by omega);have Hzb:Hid (∀ i,¬ i<m→B / 256 ^ i % 256=0):=fun i h=>Ln_high (by omega);have HLx:Hid (X<256 ^ n):=by rw [← hn];exact Ln_lt X
 have HLb:Hid (B<256 ^ m):=by rw [← hm];exact Ln_lt B
 rw [hn] at hX ⊢;rw [hm] at hB ⊢;clear h1 h2 hn hm;obtain⟨L,hL⟩:∃ L,n+m+1=L:=⟨_,rfl⟩;have HL:=jX hL;have hL1:(n:Int)+m+1=(L:Int):=by omega
 have hmk:=ygA w L (by omega)
 have hS:Hid (X*B<256 ^ L):=by
  have h1:X*B<256 ^ n*256 ^ m:=Nat.mul_lt_mul'' HLx.out HLb.out;rw [← Nat.pow_add] at h1;exact Nat.lt_of_lt_of_le h1 (Nat.pow_le_pow_right (by decide) (by omega))
 have hL9:L≤2000000001:=by omega
 clear hL;go_enter func137,ntmps137
 go_wp2_with fail;clear hmk hL1;go_loopw [6] (fun x wr=>∃ i:Nat,i≤n∧x = .int .i64 (i:Int)∧Keep [] w wr∧wr.heap[w.heap.size]? = some (.cells (ints (dl 256 L (X % 256 ^ i*B))).toArray 3 (0,0))) (fun x _=>n-(intOf x).toNat)
 case atStart=>exact ⟨0,by omega,rfl,Keep.alloc _ _ _,by rw [Nat.pow_zero,Nat.mod_one,Nat.zero_mul,ycK];exact World.alloc_heap_new w _⟩
 case round =>
  obtain⟨i,hi,rfl,hkp,hbx⟩:=hrel;obtain⟨wo,rfl⟩:∃ wo:World,wo=wr:=⟨_,rfl⟩;by_cases hlt:i<n
  ·have Hstep:=jX (ygp 256 i X B)
   have HA:=jX (yex i X (show 0<256 by decide) HLb.out)
   have x9:=Nat.mod_lt (X / 256 ^ i) (show 0<256 by decide)
   have Hkp:=jX hkp;have Hbx:=jX hbx;have Hcx:Hid (∀ w',Keep [] w w'→∃ g o,ao=some ⟨g,o,none⟩∧g<w'.heap.size∧w'.cell? ⟨g,o+i,none⟩=some (.int .i64 ((X / 256 ^ i % 256:Nat):Int))):=fun w' hk=>Hca.out w' hk i hlt;clear hkp hbx;generalize X % 256 ^ i*B=A at *;generalize X / 256 ^ i % 256=x at *;go_wp2_with fail;go_loopw [7,8] (fun c kx wr=>∃ k:Nat,k≤m+1∧kx = .int .i64 (k:Int)∧c = .int .i64 (yaz 256 k (A / 256 ^ i) x B:Nat)∧Keep [] w wr∧wr.heap[w.heap.size]? = some (.cells (ints (mixd 256 L (i+k) A (A+256 ^ i*(x*B)))).toArray 3 (0,0))) (fun _ kx _=>m+2-(intOf kx).toNat)
   case atStart =>
    refine ⟨0,by omega,rfl,by rw [ybO];rfl,Hkp.out,?_⟩;rw [Nat.add_zero,ycj (by decide)];exact Hbx.out
   case round =>
    obtain⟨k,hk,rfl,rfl,hkw,hbw⟩:=hrel;have hc9:=yba (show 0<256 by decide) k (A / 256 ^ i) x B x9
    by_cases hkm:k<m
    ·have hikL:i+k<L:=by have:=HL.out;omega
     have hco:=yfc hbw hikL;rw [yaA] at hco;obtain⟨g1,o1,rfl,hg1,c1⟩:=Hcx.out wr hkw;obtain⟨g2,o2,rfl,hg2,c2⟩:=Hcb.out wr hkw k hkm;have hd:=ycH (show 0<256 by decide) i k A x B
     have hs:=ybu (show 0<256 by decide) k (A / 256 ^ i) x B
     have hset:=jX (yaV 256 L (i+k) A (A+256 ^ i*(x*B)) hikL);have o9:=Nat.mod_lt (A / 256 ^ i / 256 ^ k) (show 0<256 by decide)
     have y9:=Nat.mod_lt (B / 256 ^ k) (show 0<256 by decide)
     have K1:∀ q:KW wr,(Wk wr q).cell? ⟨g1,o1+i,none⟩=some (.int .i64 (x:Int)):=fun q=>by
      obtain⟨g,o,h1,_,h3⟩:=Hcx.out q.x (hkw.tz q.k);injection h1 with h1;injection h1 with h1 h2 h4;subst h1 h2;exact h3
     have K2:∀ q:KW wr,(Wk wr q).cell? ⟨g2,o2+k,none⟩=some (.int .i64 ((B / 256 ^ k % 256:Nat):Int)):=fun q=>by
      obtain⟨g,o,h1,_,h3⟩:=Hcb.out q.x (hkw.tz q.k) k hkm;injection h1 with h1;injection h1 with h1 h2 h4;subst h1 h2;exact h3
     have hob:=yab hbw;have Hkw:=jX hkw;have Hbw:=jX hbw;clear hkw hbw c1 c2;generalize A / 256 ^ i / 256 ^ k % 256=o at *;generalize B / 256 ^ k % 256=y at *;generalize yaz 256 k (A / 256 ^ i) x B=c at *;obtain⟨G,hG⟩:∃ G,x*y=G:=⟨_,rfl⟩;have hG9:G≤255*255:=by rw [← hG];exact Nat.mul_le_mul (by omega) (by omega)
     have hG1:(x:Int)*(y:Int)=(G:Int):=by rw [← hG];push_cast;rfl
     have hG2:IntKind.i64.wrap (G:Int)=(G:Int):=by simp [IntKind.wrap,IntKind.bits,IntKind.signed];omega
     rw [hG] at hd hs;have Hd:=jX hd;have Hs:=jX hs;clear hG hd hs;go_wp2_with fail;refine yac (by kernel_rfl) (by kernel_rfl) ?_
     repeat (first
      | go_big_quiet_skip
      | (go_big_quiet_want;go_big_quiet_op;go_big_quiet_on))
     refine wpQuiet_nil ?_;rintro wa ⟨⟨_,hk_wa⟩,rfl⟩;have hba:=hk_wa.heap Hbw.out (by simp);have hla:=yab hba;have hfa:=yaf hba;have hca:wa.cell? ⟨w.heap.size,i+k,none⟩=some (.int .i64 (o:Int)):=by rw [yaa hba,← yaa Hbw.out];exact hco
     have Hba:=jX hba;have Hka:=jX (Hkw.out.tz hk_wa);clear hba hk_wa K1 K2 hG1 hG2 hco;go_wp2_with fail;go_roundw
     case rel =>
      refine ⟨k+1,by omega,by go_num,?_,Hka.out.sP _ _ _ (Nat.le_refl _),?_⟩
      ·rw [← Hs.out];exact congrArg (Value.int .i64) (by omega)
      have e:(((o:Int)+(c:Int)+(G:Int)) % 256)=(((c+o+G) % 256:Nat):Int):=by omega
      rw [set_same Hba.out,e,Hd.out,List.setIfInBounds_toArray,ints_set,hset.out];rfl
     case measure=>simp [intOf];omega
    by_cases hc0:yaz 256 k (A / 256 ^ i) x B=0
    ·obtain⟨p1,p2⟩:=prod_done HA.out HLb.out (by omega) hc0
     have htop:=ygr (L:=L) (show 0<256 by decide) p1 p2
     rw [htop,Hstep.out] at hbw;have Hkw:=jX hkw;have Hbw:=jX hbw;rw [hc0];clear hkw hbw p1 p2 htop hc0 hc9;go_wp2_with fail;go_roundw
     case rel=>exact ⟨i+1,by omega,by go_num,Hkw.out,Hbw.out⟩
     case measure=>simp [intOf];omega
    have hkm2:k=m:=by
     rcases Nat.lt_or_ge m k with h|h
     ·obtain rfl:k=m+1:=by omega
      exact absurd (prod_zero HA.out HLb.out x9) hc0
     omega
    have hikL:i+k<L:=by have:=HL.out;omega
    have hco:=yfc hbw hikL;rw [yaA] at hco
    have ho0:A / 256 ^ i / 256 ^ k % 256=0:=by
     rw [← yaA,Nat.div_eq_of_lt (by rw [hkm2];exact HA.out)]
    have hd:=ycH (show 0<256 by decide) i k A x B
    have hs:=ybu (show 0<256 by decide) k (A / 256 ^ i) x B
    have hset:=jX (yaV 256 L (i+k) A (A+256 ^ i*(x*B)) hikL);rw [ho0] at hco hd hs;rw [Hzb.out k hkm,Nat.mul_zero] at hd hs;simp only [Nat.add_zero] at hd hs;have hob:=yab hbw;have hof:=yaf hbw;have hcp:0<yaz 256 k (A / 256 ^ i) x B:=by omega
    have Hd:=jX hd;have Hs:=jX hs;have Hkw:=jX hkw;have Hbw:=jX hbw;have Hkm2:=jX hkm2;clear hkw hbw hd hs ho0 hc0 hkm2;generalize yaz 256 k (A / 256 ^ i) x B=c at *;go_wp2_with fail;go_roundw
    case rel =>
     refine ⟨k+1,by have:=Hkm2.out;omega,by go_num,?_,Hkw.out.sP _ _ _ (Nat.le_refl _),?_⟩
     ·rw [← Hs.out];exact congrArg (Value.int .i64) (by omega)
     have e:((c:Int) % 256)=((c % 256:Nat):Int):=by omega
     rw [set_same Hbw.out,e,Hd.out,List.setIfInBounds_toArray,ints_set,hset.out];rfl
    case measure=>have:=Hkm2.out;simp [intOf];omega
  obtain rfl:i=n:=by omega
  rw [Nat.mod_eq_of_lt HLx.out] at hbx;have HT:=jX (ydl wo _ (dl 256 L (X*B)) (by rw [yaP];omega) (yfA hbx (yaP _ _ _)) ygN);have Hkp:=jX hkp;clear hkp hbx;go_wp2_with fail;refine HT.out.mono ?_;rintro e w2 ⟨ht,rfl⟩;obtain⟨v,rfl,hdr⟩:=ybe ht (yjg (by decide) _ _);rw [yfi (by decide) _ _ hS.out] at hdr;have Hdr:=jX hdr;clear ht hdr HT;dsimp only;go_wp2_with fail;go_ret
  exact ⟨v,rfl,Hdr.out,Hkp.out⟩
section
variable {P:Program} (w:World)
theorem yeC (t ty e:TypeId) (i:TypeInfo) (z:Value) (size bytes:Nat) (ht:P.underlying t=some (.slice e)) (hi:P.info? e=some i) (hz:i.zero=some z)
  (hsize:i.size=size) (hby:i.bytes=bytes) (hzs:z.cells.size=size) (hsz:0<size)
  (v:Value) (n:Nat) (xs:List Value) (hown:w.ownsRow 0 e size v n xs)
  (a:Addr) (m c:Nat) (news:List Value) (hl:news.length=m*size) (hnews:∀ j u,news[j]? = some u→w.cell? (a.add j)=some u) (h1:∀ u∈news,u.oneCell'=true)
  (hm:0<n+m) (h63:n+m≤maxLen) (hbytes:(n+m)*bytes≤140737488355328) :
  ∃ g cap w',(Builtin.append_ #[t,t] ty #[v,.slice (some a) m c]).run P w = .ok (.slice (some ⟨g,0,none⟩) (n+m) cap) w'∧w'.ownsRow 0 e size (.slice (some ⟨g,0,none⟩) (n+m) cap) (n+m) (xs++news)∧w.grownBy w' v.ownBlock ∧
   (some g=v.ownBlock∨w.heap.size≤g)∧w.drawn≤w'.drawn:=by
 obtain⟨v',w',hr,ho,hg,_⟩:=run_append_own (P:=P) w 0 t ty e i z size bytes ht hi hz hsize hby hzs hsz v n xs hown a m c news hl hnews h1 h63 hbytes (Nat.zero_le _);subst hsize;subst hby;have hsmall:n+m≤9223372036854775807:=by simp only [maxLen] at h63;omega
 have fin : ∀ g cap w'', (Builtin.append_ #[t, t] ty #[v, .slice (some a) m c]).run P w = .ok (.slice (some ⟨g, 0, none⟩) (n + m) cap) w'' → (some g = v.ownBlock ∨ w.heap.size ≤ g) → w.drawn ≤ w''.drawn →
   ∃ g cap w',(Builtin.append_ #[t,t] ty #[v,.slice (some a) m c]).run P w = .ok (.slice (some ⟨g,0,none⟩) (n+m) cap) w'∧w'.ownsRow 0 e i.size (.slice (some ⟨g,0,none⟩) (n+m) cap) (n+m) (xs++news)∧w.grownBy w' v.ownBlock ∧
   (some g=v.ownBlock∨w.heap.size≤g)∧w.drawn≤w'.drawn:=by
  intro g cap w'' h1 h2 h2d;have h3:=h1;rw [hr] at h3;injection h3 with h3 h4;subst h3;subst h4;exact ⟨g,cap,_,h1,ho,hg,h2,h2d⟩
 rcases hown.2 with ⟨rfl,rfl⟩|⟨g,cap,cur,rfl,hbg,hgg,hnc,hcm,hcs,htake⟩
 ·have hx:xs=[]:=List.eq_nil_of_length_eq_zero (by simpa using hown.1)
  subst hx;have hr2:=run_append_nil (P:=P) w t ty e i z ht hi hz a m c news hl hnews (by omega) (by omega) (by have hb:=hbytes;simp only [Nat.zero_add] at hb;omega);exact fin _ _ _ (by rw [hr2,Nat.zero_add]) (.inr (Nat.le_refl _)) (Nat.le_succ _)
 by_cases hroom:n+m≤cap
 ·have hfit:n*i.size+news.length≤cur.size:=by rw [hl,hcs,← Nat.add_mul];exact Nat.mul_le_mul_right _ hroom
  exact fin _ _ _ (run_append_room (P:=P) w t ty e i ht hi g n cap cur hgg a m c news hl hnews h1 hroom hfit) (.inl rfl) (Nat.le_refl _)
 have holds:∀ j u,xs[j]? = some u→w.cell? ((⟨g,0,none⟩:Addr).add j)=some u:=hown.cells (g:=g) rfl;exact fin _ _ _ (run_append_grow (P:=P) w t ty e i z ht hi hz ⟨g,0,none⟩ n cap xs hown.1 holds a m c news hl hnews (by omega) (by omega) (growslice_fits (by omega) hbytes)) (.inr (Nat.le_refl _)) (Nat.le_succ _)
theorem ydG {ops:Array Oper} {rest:List Oper} {o:Oper} {a:Act} {Q:Exit→Act→World→Prop} (hgd:o.guard=none) (s x:Operand) (t:TypeId)
  (ho:o.op = .call { callee:=.builtin .append,args:=#[s,x],argTypes:=#[t,t] })
  (e:TypeId) (i:TypeInfo) (z:Value) (bytes:Nat) (ht:P.underlying t=some (.slice e)) (hi:P.info? e=some i) (hz:i.zero=some z)
  (hsize:i.size=1) (hby:i.bytes=bytes) (hzs:z.cells.size=1)
  (v:Value) (n:Nat) (xs:List Value) (hs:a.eval s=v) (hown:w.ownsRow 0 e 1 v n xs) (hn:0<n)
  (y:Value) (news:List Value) (hx:a.eval x=y) (hy:RowR w y news) (h1:∀ u∈news,u.oneCell'=true)
  (h63:n+news.length≤maxLen) (hbytes:(n+news.length)*bytes≤140737488355328)
  (h:∀ v' w',w'.ownsRow 0 e 1 v' (n+news.length) (xs++news)→w.grownBy w' v.ownBlock→w.drawn≤w'.drawn→wpList P ops Q rest (a.put o.dst v') w'):wpList P ops Q (o :: rest) a w:=by
 refine wpList_plain hgd fun K hK=>?_
 have ⟨v',w',hr,h2,h3,h5⟩:∃ v' w',(Builtin.append_ #[t,t] o.type #[v,y]).run P w = .ok v' w'∧w'.ownsRow 0 e 1 v' (n+news.length) (xs++news)∧w.grownBy w' v.ownBlock∧w.drawn≤w'.drawn:=by
  rcases hy with ⟨rfl,rfl⟩|⟨g,b,c,rfl,hg,hc⟩
  ·exact ⟨v,w,run_append_owned_none (P:=P) (w:=w) 0 t o.type e i 1 ht hi v n xs hown,by simpa using hown,⟨rfl,rfl,rfl,Nat.le_refl _,fun _ _ _=>rfl⟩,Nat.le_refl _⟩
  obtain⟨g',cap,w',hr,ho,hg',_,hd⟩:=yeC (P:=P) w t o.type e i z 1 bytes ht hi hz hsize hby hzs (by decide) v n xs hown ⟨g,b,none⟩ news.length c news (by simp) (fun j u hj=>by
   rw [Addr.add_lit];exact hc j u hj) h1 (by omega) h63 hbytes
  exact ⟨_,w',hr,ho,hg',hd⟩
 unfold Oper.wp execOp;simp only [ho,resolve,invoke,builtin,Sem.run_bind,Sem.run_pure,Result.andThen_ok,List.map_toArray,List.map_cons,List.map_nil,hs,hx,hr];exact hK _ _ (h v' w' h2 h3 h5)
end
theorem ints_one (l:List Nat):∀ u∈ints l,u.oneCell'=true:=by
 intro u hu;obtain⟨x,_,hx⟩:=List.mem_map.1 hu;rw [← hx];rfl
theorem yhV {w:World} {e:TypeId} {size n:Nat} {v:Value} {xs:List Value} (h:w.ownsRow 0 e size v n xs):CapOk v:=by
 intro a m c e;rcases h.2 with ⟨hv,h0⟩|⟨g,cap,cur,hv,_,_,hn,_⟩
 ·rw [hv] at e;injection e with e1 e2 e3;omega
 rw [hv] at e;injection e with e1 e2 e3;omega
theorem dv_rem {A B i:Nat} (hB:0<B):A / 256 ^ i % B=(256*(A / 256 ^ (i+1) % B)+A / 256 ^ i % 256) % B:=by
 have e:A / 256 ^ i=256*(A / 256 ^ (i+1))+A / 256 ^ i % 256:=by rw [Nat.pow_succ,← Nat.div_div_eq_div_mul,Nat.div_add_mod]
 have h:=Nat.div_add_mod (A / 256 ^ (i+1)) B;generalize A / 256 ^ (i+1) / B=q at *;generalize A / 256 ^ (i+1) % B=r at *;rw [← h] at e;have e2:A / 256 ^ i=(256*r+A / 256 ^ i % 256)+B*(256*q):=by rw [Nat.mul_left_comm];omega
 generalize A / 256 ^ i % 256=d at *;rw [e2,Nat.add_mul_mod_self_left]
theorem dv_quo {A B i:Nat} (hB:0<B):A / B / 256 ^ i % 256=(256*(A / 256 ^ (i+1) % B)+A / 256 ^ i % 256) / B:=by
 have e:A / 256 ^ i=256*(A / 256 ^ (i+1))+A / 256 ^ i % 256:=by rw [Nat.pow_succ,← Nat.div_div_eq_div_mul,Nat.div_add_mod]
 have h:=Nat.div_add_mod (A / 256 ^ (i+1)) B;have h9:=Nat.mod_lt (A / 256 ^ (i+1)) hB;have d9:=Nat.mod_lt (A / 256 ^ i) (show 0<256 by decide)
 rw [Nat.div_div_eq_div_mul,Nat.mul_comm B,← Nat.div_div_eq_div_mul];generalize A / 256 ^ (i+1) / B=q at *;generalize A / 256 ^ (i+1) % B=r at *;rw [← h] at e;have e2:A / 256 ^ i=(256*r+A / 256 ^ i % 256)+B*(256*q):=by rw [Nat.mul_left_comm];omega
 generalize A / 256 ^ i % 256=d at *;rw [e2,Nat.add_mul_div_left _ _ hB]
 have:(256*r+d) / B<256:=by
  rw [Nat.div_lt_iff_lt_mul hB];have:=Nat.mul_le_mul_left 256 (show r+1≤B from h9)
  omega
 generalize (256*r+d) / B=x at *;omega
theorem dv_bound {A B i:Nat} (hB:0<B):256*(A / 256 ^ (i+1) % B)+A / 256 ^ i % 256<256*B:=by
 have h9:=Nat.mod_lt (A / 256 ^ (i+1)) hB;have d9:=Nat.mod_lt (A / 256 ^ i) (show 0<256 by decide)
 omega
theorem dv_end {R B t r:Nat} (hB:0<B) (h:r+t*B=R) (hr:r<B):R / B=t∧R % B=r:=by
 have e:R=r+B*t:=by rw [Nat.mul_comm];omega
 constructor
 ·rw [e,Nat.add_mul_div_left _ _ hB,Nat.div_eq_of_lt hr];omega
 rw [e,Nat.add_mul_mod_self_left,Nat.mod_eq_of_lt hr]
theorem dv_room {R B t s r:Nat} (hB:0<B) (h:r+t*B=R) (hR:R<256*B) (hs:s*B≤r):t+s≤255:=by
 have h1:(t+s)*B<256*B:=by rw [Nat.add_mul];omega
 have:=Nat.lt_of_mul_lt_mul_right h1;omega
theorem dv_last {R B r:Nat} (h:r+255*B=R) (hR:R<256*B):r<B:=by omega
theorem mixd_set0 {L i Q:Nat}:(mixd 256 L (i+1) Q 0).set i 0=mixd 256 L (i+1) Q 0:=by
 apply List.ext_getElem
 ·simp
 intro j h1 h2;rw [List.getElem_set];by_cases e:i=j
 ·subst e;simp [mixd]
 rw [if_neg e]
def DivPost (w0:World) (A B:Nat) (e:Ending) (w':World):Prop:=∃ v1 v2,e = .returned (.tuple #[v1,v2])∧DR w' v1 (A / B)∧DR w' v2 (A % B)∧Keep [] w0 w'
theorem quo_nat (a b:Nat):Int.tdiv (a:Int) (b:Int)=((a / b:Nat):Int):=rfl
theorem rem_nat (a b:Nat):Int.tmod (a:Int) (b:Int)=((a % b:Nat):Int):=rfl
theorem divide_s (w:World) (v1 v2:Value) (A B:Nat) (h1:DR w v1 A) (h2:DR w v2 B) (hA:Ln A≤7) (hB:Ln B≤7) (hB0:0<B) :
  Calls prog 173 #[v1,v2] w (DivPost w A B):=by
 have HS1:=jX (ygw w v1 A h1 hA);have HS2:=jX (ygw w v2 B h2 hB);have hA9:A<72057594037927936:=Nat.lt_of_lt_of_le (Ln_lt A) (Nat.le_trans (Nat.pow_le_pow_right (by decide) hA) (by decide));have hB9:B<72057594037927936:=Nat.lt_of_lt_of_le (Ln_lt B) (Nat.le_trans (Nat.pow_le_pow_right (by decide) hB) (by decide));have HL1:Hid (∀ w',Calls prog 195 #[.int .i64 ((A / B:Nat):Int)] w' (Digits w' (A / B))):=fun w'=>large_c w' _ (by have:=Nat.div_le_self A B;omega);have HL2:Hid (∀ w',Calls prog 195 #[.int .i64 ((A % B:Nat):Int)] w' (Digits w' (A % B))):=fun w'=>large_c w' _ (by have:=Nat.mod_lt A hB0;omega);obtain⟨ao,ac,rfl,_⟩:=h1.form;obtain⟨bo,bc,rfl,_⟩:=h2.form;clear h1 h2 hA hB;generalize Ln A=n at *;generalize Ln B=m at *;have hq:=quo_nat A B;have hr:=rem_nat A B;have hq2:(A:Int) / (B:Int)=((A / B:Nat):Int):=rfl;have hr2:(A:Int) % (B:Int)=((A % B:Nat):Int):=rfl;have hB00:¬ B=0:=by omega
 have hq9:A / B<72057594037927936:=by have:=Nat.div_le_self A B;omega
 have hr9:A % B<72057594037927936:=by have:=Nat.mod_lt A hB0;omega
 have hbz:¬ ((B:Int)=0):=by omega
 have hbz2:((B:Int) == 0)=false:=by rw [beq_eq_false_iff_ne];omega
 have hbp:(0:Int)<(B:Int):=by omega
 generalize hQ:A / B=Q at *;generalize hR:A % B=R at *;have HQ:=jX hQ;have HR:=jX hR;clear hQ hR;go_enter func173,ntmps173
 go_wp2_with fail;refine HS1.out.mono ?_;rintro e w2 ⟨rfl,rfl⟩;dsimp only;go_wp2_with fail;refine HS2.out.mono ?_;rintro e w3 ⟨rfl,rfl⟩;dsimp only;clear HS1 HS2;go_wp2_with fail;refine yaj (S:=fun _=>True) 9 (by kernel_rfl) (by kernel_rfl) (fun _ _ d _ _ h=>by cases d<;>exact h) ?_;have hk0:=Keep.drew [] w3;generalize w3.drew=u0 at *;refine' jV (v:=_) 0 trivial (fun w hw=>?h0) (fun K hK=>?k0)
 case h0=>(go_simp;try rfl)
 go_simp;refine hK _ ?_;clear hK K;refine' jV (v:=_) 1 trivial (fun w hw=>?h1) (fun K hK=>?k1)
 case h1=>(go_simp;try rfl)
 go_simp;refine hK _ ?_;clear hK K;refine' jV (v:=_) 2 trivial (fun w hw=>?h2) (fun K hK=>?k2)
 case h2=>(go_simp;try rfl)
 go_simp;refine hK _ ?_;clear hK K;refine' jV (v:=_) 4 trivial (fun w hw=>?h4) (fun K hK=>?k4)
 case h4=>(go_simp;try rfl)
 go_simp;refine hK _ ?_;clear hK K;refine' jV (v:=_) 5 trivial (fun w hw=>?h5) (fun K hK=>?k5)
 case h5=>(go_simp;try rfl)
 go_simp;refine hK _ ?_;clear hK K;refine' jV (v:=_) 6 trivial (fun w hw=>?h6) (fun K hK=>?k6)
 case h6=>(go_simp;try rfl)
 go_simp;refine hK _ ?_;clear hK K;have hw1:IntKind.i64.wrap (Q:Int)=(Q:Int):=by simp [IntKind.wrap,IntKind.bits,IntKind.signed];omega
 have hw2:IntKind.i64.wrap (R:Int)=(R:Int):=by simp [IntKind.wrap,IntKind.bits,IntKind.signed];omega
 refine jO 3 (fun K hK=>?_);refine yae 195 #[.int .i64 (Q:Int)] (by go_simp) ?_;refine (HL1.out _).mono ?_;rintro e u1 ⟨x1,rfl,hd1,hk1⟩;refine ⟨_,rfl,?_⟩;refine hK _ _ trivial ?_;clear hK K;refine jO 7 (fun K hK=>?_);refine yae 195 #[.int .i64 (R:Int)] (by go_simp) ?_;refine (HL2.out _).mono ?_;rintro e u2 ⟨x2,rfl,hd2,hk2⟩;refine ⟨_,rfl,?_⟩;refine hK _ _ trivial ?_;clear hK K;have HD1:=jX (hd1.later hk2);have HD2:=jX hd2;have HK:=jX ((hk0.tz hk1).tz hk2);clear hd1 hd2 hk0 hk1 hk2 HL1 HL2;refine' jV (v:=_) 8 trivial (fun w hw=>?h8) (fun K hK=>?k8)
 case h8=>(go_simp;try rfl)
 go_simp;refine hK _ ?_;clear hK K;refine ⟨by kernel_rfl,?_⟩;simp only [List.drop_succ_cons,List.drop_zero];go_wp2_with fail;go_ret2
 exact ⟨x1,x2,rfl,by rw [HQ.out];exact HD1.out,by rw [HR.out];exact HD2.out,HK.out⟩
theorem yig (w:World):DR w (.slice none 0 0) 0:=⟨.inl ⟨rfl,by unfold digs;rfl⟩,fun a n c e=>by injection e with _ e2 e3;omega⟩
theorem ydI (w:World) (v:Value) (N:Nat) (h:DR w v N) (h9:Ln N≤1000000000) :
  Calls prog 194 #[v] w fun e w'=>∃ (y:Int) (f:Bool),e = .returned (.tuple #[.int .i64 y,.bool f])∧w'=w∧(7<Ln N→f=false):=by
 by_cases h7:Ln N≤7
 ·refine (ygw w v N h h7).mono ?_
  rintro e w' ⟨h1,h2⟩;exact ⟨_,_,h1,h2,fun h=>by omega⟩
 refine (small_no w v N h (by omega) h9).mono ?_;rintro e w' ⟨h1,h2⟩;exact ⟨_,_,h1,h2,fun h=>rfl⟩
theorem divide_l (w:World) (v1 v2:Value) (A B:Nat) (h1:DR w v1 A) (h2:DR w v2 B) (hA:Ln A≤1000000000) (hB:Ln B≤1000000000) (hB7:7<Ln B) (hAB:A<B) :
  Calls prog 173 #[v1,v2] w (DivPost w A B):=by
 have HS1:=jX (ydI w v1 A h1 hA);have HS2:=jX (ydI w v2 B h2 hB);have HC:=jX (yaT w v1 v2 A B h1 h2 hA hB);rw [ygx hAB] at HC;have HE1:=jX (Nat.div_eq_of_lt hAB);have HE2:=jX (Nat.mod_eq_of_lt hAB);have H1:=jX h1;have HB7:=jX hB7;obtain⟨ao,ac,rfl,_⟩:=h1.form;obtain⟨bo,bc,rfl,_⟩:=h2.form;clear h1 h2 hA hB hAB hB7;generalize Ln A=n at *;generalize Ln B=m at *;go_enter func173,ntmps173
 go_wp2_with fail;refine HS1.out.mono ?_;rintro e w2 ⟨y1,f1,rfl,rfl,_⟩;dsimp only;go_wp2_with fail;refine HS2.out.mono ?_;rintro e w3 ⟨y2,f2,rfl,rfl,hf2⟩;obtain rfl:=hf2 HB7.out;dsimp only;clear HS1 HS2 hf2;cases f1
 ·go_wp2_with fail
  refine HC.out.mono ?_;rintro e w4 ⟨rfl,hk⟩;have Hk:=jX hk;clear hk;dsimp only;go_wp2_with fail;go_ret2
  exact ⟨_,_,rfl,by rw [HE1.out];exact yig _,by rw [HE2.out];exact H1.out.later Hk.out,Hk.out⟩
 go_wp2_with fail;refine HC.out.mono ?_;rintro e w4 ⟨rfl,hk⟩;have Hk:=jX hk;clear hk;dsimp only;go_wp2_with fail;go_ret2
 exact ⟨_,_,rfl,by rw [HE1.out];exact yig _,by rw [HE2.out];exact H1.out.later Hk.out,Hk.out⟩
end Go.Proofs.YtejegogbhpmgfaaGreatDoor
