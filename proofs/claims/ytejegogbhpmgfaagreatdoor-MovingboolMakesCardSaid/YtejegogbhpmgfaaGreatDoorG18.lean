/- Parts of a proof: Rj Rm Ro. -/
import Derived.Test.YtejegogbhpmgfaaGreatDoorG12
import Derived.Test.YtejegogbhpmgfaaGreatDoorG04
import Derived.Test.YtejegogbhpmgfaaGreatDoorG06
set_option linter.unusedVariables false
set_option linter.unusedSimpArgs false
set_option maxRecDepth 100000
set_option maxHeartbeats 8000000
namespace Go.Proofs.YtejegogbhpmgfaaGreatDoor
open Go.RowKit Tryz
def revB (s:ByteArray):List Nat:=s.data.toList.reverse.map UInt8.toNat
theorem ybN (s:ByteArray):(revB s).length=s.size:=by simp [revB]
theorem val_rev:∀ l:List UInt8,val 256 (l.reverse.map UInt8.toNat)=natL l
 | []=>rfl
 | b :: l=>by
  rw [List.reverse_cons,List.map_append,List.map_singleton,val_snoc,val_rev l,ybj];rw [List.length_map,List.length_reverse,Nat.mul_comm (256 ^ l.length),Nat.add_comm]
theorem yit (s:ByteArray):val 256 (revB s)=natB s:=val_rev _
theorem revB_lt (s:ByteArray):∀ d∈revB s,d<256:=by
 intro d hd;unfold revB at hd;obtain⟨b,_,rfl⟩:=List.mem_map.1 hd;exact b.toNat_lt
theorem yhi (s:ByteArray) (k:Nat) (h:k<s.size):(revB s).take (k+1)=(revB s).take k++[(s[s.size-1-k]'(by omega)).toNat]:=by
 have hl:k<(revB s).length:=by rw [ybN];exact h
 rw [List.take_add_one,List.getElem?_eq_getElem hl,Option.toList_some];congr 2
 simp only [revB,List.getElem_map];rw [List.getElem_reverse];congr 1
theorem ybe {w:World} {l:List Nat} {e:Ending} (h:Trimmed w l e) (hd:∀ d∈l,d<256):∃ v,e = .returned v∧DR w v (val 256 l):=by
 obtain⟨v,h1,h2,h3⟩:=h;rw [yiZ (B:=256) (by decide) l hd] at h2;exact ⟨v,h1,h2,h3⟩
def Digits (w0:World) (N:Nat) (e:Ending) (w':World):Prop:=∃ v,e = .returned v∧DR w' v N∧Keep [] w0 w'
theorem yeG (n:Bool) (s:ByteArray) (hs:s.size≤1000000000000) (w:World) :
  Calls prog 167 #[.agg #[.bool n,.string s]] w (Digits w (natB s)):=by
 obtain⟨i0,hi,hz0,hz1,hz2⟩:=yaQ infoInt;have Hi:=jX (And.intro hi (And.intro hz0 (And.intro hz1 hz2)));clear hi hz0 hz1 hz2;go_enter func167,ntmps167
 go_wp2_with fail;obtain⟨W,ga,hW,ega,Bga,hga,hgW,HkW⟩:=al1h w (.cells #[.bool n,.string s] 32);rw [← hW];try rw [ega]
 clear hW ega;obtain⟨pga,fga,lga⟩:=jQ Bga;go_wp2_with fail;go_loopw [3,4] (fun b i wr=>∃ k:Nat,k≤s.size∧i = .int .i64 ((s.size:Int)-1-(k:Int))∧∃ l,l=(revB s).take k∧OI W wr b l) (fun _ i _=>(intOf i+1).toNat)
 case atStart=>exact ⟨0,by omega,congrArg (Value.int .i64) (by omega),_,rfl,OI.nil _⟩
 case round =>
  obtain⟨k,hk,rfl,l,hl,hoi⟩:=hrel;have Bga2:=jX (hoi.keep.heap Bga.out (by simp));have pga2:=yaa Bga2.out;have Hrow:=jX hoi;have hll:l.length=k:=by rw [hl,List.length_take,ybN];omega
  have hl9:l.length≤1000000000000:=by omega
  clear hll;obtain⟨po,pc,rfl⟩:=hoi.form;have Hl:=jX hl;clear hl hoi;by_cases hlt:k<s.size
  ·have hix:=fun w=>yfq w s k hlt
   have hrt:=yhi s k hlt;rw [← Hl.out] at hrt;have Hrt:=jX hrt;have hgw:=yab Bga2.out;have hd9:(s[s.size-1-k]'(by omega)).toNat≤255:=by have:=UInt8.toNat_lt (s[s.size-1-k]'(by omega));omega
   generalize (s[s.size-1-k]'(by omega)).toNat=d at *;clear hrt;go_wp2_with (at_builtin;refine yao _ rfl _ _ 133 rfl 3 i0 _ 1 8 underlying133 Hi.out.1 Hi.out.2.1 Hi.out.2.2.1 Hi.out.2.2.2 rfl (by decide) _ _ _ rfl (yay Hrow.out.row (Keep.alloc [] _ _) (by simp)) ⟨wr.heap.size,0,none⟩ 1 1 [.int .i64 (d)] rfl rfl (yaR _ _ _) ?c2 (by decide) ?c3 ?c4 ?_)
   case c2=>first|(intro u hu;simp at hu;subst hu;rfl)|rfl
   case c3=>unfold maxLen;omega
   case c4=>omega
   intro g cap wa hoa hga hfa hda;have Hn:=jX (Hrow.out.step hoa hga hfa hda);clear hoa hga hfa hda;go_wp2_with fail;go_roundw
   case rel=>exact ⟨k+1,by omega,congrArg (Value.int .i64) (by omega),_,Hrt.out.symm,Hn.out⟩
   case measure=>simp [intOf];omega
  obtain rfl:k=s.size:=by omega
  have hfull:l=revB s:=by rw [Hl.out,List.take_of_length_le (by rw [ybN];omega)]
  have HT:=jX (ydl wr _ l (by omega) Hrow.out.read Hrow.out.cap);have Hf:=jX hfull;clear hfull;go_wp2_with fail;refine HT.out.mono ?_;rintro e w2 ⟨ht,rfl⟩;obtain⟨v,rfl,hdr⟩:=ybe ht (by rw [Hf.out];exact revB_lt s);rw [Hf.out,yit] at hdr;have Hdr:=jX hdr;clear ht hdr HT;dsimp only;go_wp2_with fail;go_ret
  exact ⟨v,rfl,Hdr.out,HkW.out.tz Hrow.out.keep⟩
def Ln (N:Nat):Nat:=(digs 256 N).length
theorem Ln_le {N k:Nat}:Ln N≤k↔N<256 ^ k:=yhL (by decide) N k
theorem Ln_lt (N:Nat):N<256 ^ Ln N:=Ln_le.1 (Nat.le_refl _)
theorem Ln_mono {M N:Nat} (h:M≤N):Ln M≤Ln N:=Ln_le.2 (Nat.lt_of_le_of_lt h (Ln_lt N))
theorem Ln_add (M N:Nat):Ln (M+N)≤max (Ln M) (Ln N)+1:=by
 rw [Ln_le,Nat.pow_succ];have h1:=Nat.lt_of_lt_of_le (Ln_lt M) (Nat.pow_le_pow_right (n:=256) (by decide) (Nat.le_max_left (Ln M) (Ln N)));have h2:=Nat.lt_of_lt_of_le (Ln_lt N) (Nat.pow_le_pow_right (n:=256) (by decide) (Nat.le_max_right (Ln M) (Ln N)));omega
theorem Ln_mul (M N:Nat):Ln (M*N)≤Ln M+Ln N:=by
 rw [Ln_le,Nat.pow_add];exact Nat.mul_lt_mul'' (Ln_lt M) (Ln_lt N)
theorem Ln_high {N i:Nat} (h:¬ i<Ln N):N / 256 ^ i % 256=0:=by
 rw [Nat.div_eq_of_lt (Nat.lt_of_lt_of_le (Ln_lt N) (Nat.pow_le_pow_right (by decide) (by omega)))]
theorem Ln_get (N i:Nat) (h:i<(digs 256 N).length):(digs 256 N)[i]=N / 256 ^ i % 256:=by
 have:=yfg (B:=256) (by decide) (digs 256 N) i h (ygb (by decide) N);rw [yca (by decide)] at this;exact this.symm
theorem DR.form {w:World} {v:Value} {N:Nat} (h:DR w v N):∃ ao c,v = .slice ao (Ln N) c∧Ln N≤c:=by
 obtain⟨ao,c,e⟩:=h.1.form;rw [ybi] at e;exact ⟨ao,c,e,h.2 _ _ _ e⟩
theorem DR.cell {w:World} {ao:Option Addr} {n c N:Nat} (h:DR w (.slice ao n c) N) {i:Nat} (hi:i<Ln N):∃ g o,ao=some ⟨g,o,none⟩∧g<w.heap.size∧w.cell? ⟨g,o+i,none⟩=some (.int .i64 ((N / 256 ^ i % 256:Nat):Int)):=by
 have hl:i<(digs 256 N).length:=hi;rcases h.1 with ⟨h1,h2⟩|⟨g,o,c',h1,hg,hc⟩
 ·have:(digs 256 N).length=0:=by rw [← ybi,h2];rfl
  omega
 injection h1 with h1 _ _;exact ⟨g,o,h1,hg,by have:=hc i _ (yga _ i hl);rwa [Ln_get] at this⟩
theorem ydC (B k S:Nat):dl B (k+1) S=dl B k S++[S / B ^ k % B]:=by
 unfold dl;rw [List.range_succ,List.map_append];rfl
theorem yjn {A B n m i:Nat} (hA:A<256 ^ n) (hB:B<256 ^ m) (hi:max n m+1≤i):carryA 256 i A B=0:=by
 have h1:=Nat.lt_of_lt_of_le hA (Nat.pow_le_pow_right (n:=256) (by decide) (Nat.le_max_left n m));have h2:=Nat.lt_of_lt_of_le hB (Nat.pow_le_pow_right (n:=256) (by decide) (Nat.le_max_right n m));have h3:256 ^ (max n m+1)≤256 ^ i:=Nat.pow_le_pow_right (by decide) hi;rw [Nat.pow_succ] at h3;unfold carryA;rw [Nat.mod_eq_of_lt (by omega),Nat.mod_eq_of_lt (by omega)];exact Nat.div_eq_of_lt (by omega)
theorem yjG {A B n m i:Nat} (hA:A<256 ^ n) (hB:B<256 ^ m) (hn:n≤i) (hm:m≤i) (h:carryA 256 i A B=0):A+B<256 ^ i:=by
 have h1:=Nat.lt_of_lt_of_le hA (Nat.pow_le_pow_right (n:=256) (by decide) hn);have h2:=Nat.lt_of_lt_of_le hB (Nat.pow_le_pow_right (n:=256) (by decide) hm);unfold carryA at h;rw [Nat.mod_eq_of_lt h1,Nat.mod_eq_of_lt h2] at h;rcases Nat.lt_or_ge (A+B) (256 ^ i) with h3|h3
 ·exact h3
 have:=Nat.div_pos h3 (Nat.pow_pos (n:=i) (show 0<256 by decide))
 omega
theorem yfE (w:World) (v1 v2:Value) (A B:Nat) (h1:DR w v1 A) (h2:DR w v2 B) (hA:Ln A≤1000000000) (hB:Ln B≤1000000000) :
  Calls prog 139 #[v1,v2] w (Digits w (A+B)):=by
 obtain⟨i0,hi,hz0,hz1,hz2⟩:=yaQ infoInt;have Hi:=jX (And.intro hi (And.intro hz0 (And.intro hz1 hz2)));clear hi hz0 hz1 hz2;obtain⟨ao,ac,rfl,_⟩:=h1.form;obtain⟨bo,bc,rfl,_⟩:=h2.form;obtain⟨n,hn⟩:∃ n,Ln A=n:=⟨_,rfl⟩;obtain⟨m,hm⟩:∃ m,Ln B=m:=⟨_,rfl⟩;have Hca:Hid (∀ w',Keep [] w w'→∀ i,i<n→∃ g o,ao=some ⟨g,o,none⟩∧g<w'.heap.size∧w'.cell? ⟨g,o+i,none⟩=some (.int .i64 ((A / 256 ^ i % 256:Nat):Int))):=fun w' hk i hi=>(h1.later hk).cell (by omega);have Hcb:Hid (∀ w',Keep [] w w'→∀ i,i<m→∃ g o,bo=some ⟨g,o,none⟩∧g<w'.heap.size∧w'.cell? ⟨g,o+i,none⟩=some (.int .i64 ((B / 256 ^ i % 256:Nat):Int))):=fun w' hk i hi=>(h2.later hk).cell (by omega);have Hza:Hid (∀ i,¬ i<n→A / 256 ^ i % 256=0):=fun i h=>Ln_high (by omega);have Hzb:Hid (∀ i,¬ i<m→B / 256 ^ i % 256=0):=fun i h=>Ln_high (by omega);have HLa:Hid (A<256 ^ n):=by rw [← hn];exact Ln_lt A
 have HLb:Hid (B<256 ^ m):=by rw [← hm];exact Ln_lt B
 rw [hn] at hA ⊢;rw [hm] at hB ⊢;clear h1 h2 hn hm;go_enter func139,ntmps139
 go_wp2_with fail;go_loopw [5,6,7] (fun b c x wr=>∃ i:Nat,i≤max n m+1∧x = .int .i64 (i:Int)∧c = .int .i64 (carryA 256 i A B:Nat)∧∃ l,l=dl 256 i (A+B)∧OI w wr b l) (fun _ _ x _=>max n m+2-(intOf x).toNat)
 case atStart=>exact ⟨0,by omega,rfl,by rw [ybS];rfl,_,rfl,OI.nil _⟩
 case round =>
  obtain⟨i,hi,rfl,rfl,l,hl,hoi⟩:=hrel;have Hrow:=jX hoi;have hl9:l.length≤1000000001:=by rw [hl,yaP];omega
  obtain⟨po,pc,rfl⟩:=hoi.form;have Hl:=jX hl;clear hl hoi;by_cases ha:i<n
  ·obtain⟨g1,o1,rfl,hg1,c1⟩:=Hca.out wr Hrow.out.keep i ha
   have him:i<max n m:=by omega
   have x9:=Nat.mod_lt (A / 256 ^ i) (show 0<256 by decide)
   have y9:=Nat.mod_lt (B / 256 ^ i) (show 0<256 by decide)
   have Hnext:=jX (ybc (show 0<256 by decide) i A B)
   have hdg:=yaY (show 0<256 by decide) i A B
   have hsn:=ydC 256 i (A+B);rw [← hdg] at hsn;have Hsn:=jX hsn;have hc1:=ybD (show 0<256 by decide) i A B
   clear hdg hsn;by_cases hb:i<m
   ·obtain⟨g2,o2,rfl,hg2,c2⟩:=Hcb.out wr Hrow.out.keep i hb
    generalize A / 256 ^ i % 256=x at *;generalize B / 256 ^ i % 256=y at *;generalize carryA 256 i A B=c at *;obtain⟨d,hd⟩:∃ d,(c+x+y) % 256=d:=⟨_,rfl⟩;rw [hd] at Hsn;have hd2:((c:Int)+x+y) % 256=(d:Int):=by omega
    have hd9:d≤255:=by omega
    clear hd;go_wp2_with (at_builtin;refine yao _ rfl _ _ 133 rfl 3 i0 _ 1 8 underlying133 Hi.out.1 Hi.out.2.1 Hi.out.2.2.1 Hi.out.2.2.2 rfl (by decide) _ _ _ rfl (yay Hrow.out.row (Keep.alloc [] _ _) (by simp)) ⟨wr.heap.size,0,none⟩ 1 1 [.int .i64 (d)] rfl rfl (yaR _ _ _) ?c2 (by decide) ?c3 ?c4 ?_)
    case c2=>first|(intro u hu;simp at hu;subst hu;rfl)|rfl
    case c3=>unfold maxLen;omega
    case c4=>omega
    intro g cap wa hoa hga hfa hda;have Hn:=jX (Hrow.out.step (d:=d) hoa hga hfa hda);clear hoa hga hfa hda;go_wp2_with fail;go_roundw
    case rel=>exact ⟨i+1,by omega,by go_num,by rw [← Hnext.out];exact congrArg (Value.int .i64) (by omega),l++[d],by rw [Hsn.out,← Hl.out],Hn.out⟩
    case measure=>simp [intOf];omega
   have hy0:=Hzb.out i hb;rw [hy0] at Hnext Hsn;generalize A / 256 ^ i % 256=x at *;generalize carryA 256 i A B=c at *;obtain⟨d,hd⟩:∃ d,(c+x+0) % 256=d:=⟨_,rfl⟩;rw [hd] at Hsn;have hd2:((c:Int)+x) % 256=(d:Int):=by omega
   have hd9:d≤255:=by omega
   clear hd hy0 y9;go_wp2_with (at_builtin;refine yao _ rfl _ _ 133 rfl 3 i0 _ 1 8 underlying133 Hi.out.1 Hi.out.2.1 Hi.out.2.2.1 Hi.out.2.2.2 rfl (by decide) _ _ _ rfl (yay Hrow.out.row (Keep.alloc [] _ _) (by simp)) ⟨wr.heap.size,0,none⟩ 1 1 [.int .i64 (d)] rfl rfl (yaR _ _ _) ?c2 (by decide) ?c3 ?c4 ?_)
   case c2=>first|(intro u hu;simp at hu;subst hu;rfl)|rfl
   case c3=>unfold maxLen;omega
   case c4=>omega
   intro g cap wa hoa hga hfa hda;have Hn:=jX (Hrow.out.step (d:=d) hoa hga hfa hda);clear hoa hga hfa hda;go_wp2_with fail;go_roundw
   case rel=>exact ⟨i+1,by omega,by go_num,by rw [← Hnext.out];exact congrArg (Value.int .i64) (by omega),l++[d],by rw [Hsn.out,← Hl.out],Hn.out⟩
   case measure=>simp [intOf];omega
  have hx0:=Hza.out i ha;have y9:=Nat.mod_lt (B / 256 ^ i) (show 0<256 by decide)
  by_cases hb:i<m
  ·obtain⟨g2,o2,rfl,hg2,c2⟩:=Hcb.out wr Hrow.out.keep i hb
   have him:i<max n m:=by omega
   have Hnext:=jX (ybc (show 0<256 by decide) i A B)
   have hdg:=yaY (show 0<256 by decide) i A B
   have hsn:=ydC 256 i (A+B);rw [← hdg] at hsn;have Hsn:=jX hsn;have hc1:=ybD (show 0<256 by decide) i A B
   clear hdg hsn;rw [hx0] at Hnext Hsn;generalize B / 256 ^ i % 256=y at *;generalize carryA 256 i A B=c at *;obtain⟨d,hd⟩:∃ d,(c+0+y) % 256=d:=⟨_,rfl⟩;rw [hd] at Hsn;have hd2:((c:Int)+y) % 256=(d:Int):=by omega
   have hd9:d≤255:=by omega
   clear hd hx0;go_wp2_with (at_builtin;refine yao _ rfl _ _ 133 rfl 3 i0 _ 1 8 underlying133 Hi.out.1 Hi.out.2.1 Hi.out.2.2.1 Hi.out.2.2.2 rfl (by decide) _ _ _ rfl (yay Hrow.out.row (Keep.alloc [] _ _) (by simp)) ⟨wr.heap.size,0,none⟩ 1 1 [.int .i64 (d)] rfl rfl (yaR _ _ _) ?c2 (by decide) ?c3 ?c4 ?_)
   case c2=>first|(intro u hu;simp at hu;subst hu;rfl)|rfl
   case c3=>unfold maxLen;omega
   case c4=>omega
   intro g cap wa hoa hga hfa hda;have Hn:=jX (Hrow.out.step (d:=d) hoa hga hfa hda);clear hoa hga hfa hda;go_wp2_with fail;go_roundw
   case rel=>exact ⟨i+1,by omega,by go_num,by rw [← Hnext.out];exact congrArg (Value.int .i64) (by omega),l++[d],by rw [Hsn.out,← Hl.out],Hn.out⟩
   case measure=>simp [intOf];omega
  have hy0:=Hzb.out i hb;by_cases hc:carryA 256 i A B=0
  ·have hS:=yjG HLa.out HLb.out (by omega) (by omega) hc
   have HT:=jX (ydl wr _ l (by omega) Hrow.out.read Hrow.out.cap);have HS:=jX hS;rw [hc];clear hS hx0 hy0 hc y9;go_wp2_with fail;refine HT.out.mono ?_;rintro e w2 ⟨ht,rfl⟩;obtain⟨v,rfl,hdr⟩:=ybe ht (by rw [Hl.out];exact yjg (by decide) _ _);rw [Hl.out,yfi (by decide) _ _ HS.out] at hdr;have Hdr:=jX hdr;clear ht hdr HT;dsimp only;go_wp2_with fail;go_ret
   exact ⟨v,rfl,Hdr.out,Hrow.out.keep⟩
  have him:i≤max n m:=by
   rcases Nat.lt_or_ge (max n m) i with h|h
   ·exact absurd (yjn HLa.out HLb.out h) hc
   exact h
  have Hnext:=jX (ybc (show 0<256 by decide) i A B)
  have hdg:=yaY (show 0<256 by decide) i A B
  have hsn:=ydC 256 i (A+B);rw [← hdg] at hsn;have Hsn:=jX hsn;have hc1:=ybD (show 0<256 by decide) i A B
  clear hdg hsn;rw [hx0,hy0] at Hnext Hsn;have hcp:0<carryA 256 i A B:=by omega
  generalize carryA 256 i A B=c at *;obtain⟨d,hd⟩:∃ d,(c+0+0) % 256=d:=⟨_,rfl⟩;rw [hd] at Hsn;have hd2:(c:Int) % 256=(d:Int):=by omega
  have hd9:d≤255:=by omega
  clear hd hx0 hy0 y9 hc;go_wp2_with (at_builtin;refine yao _ rfl _ _ 133 rfl 3 i0 _ 1 8 underlying133 Hi.out.1 Hi.out.2.1 Hi.out.2.2.1 Hi.out.2.2.2 rfl (by decide) _ _ _ rfl (yay Hrow.out.row (Keep.alloc [] _ _) (by simp)) ⟨wr.heap.size,0,none⟩ 1 1 [.int .i64 (d)] rfl rfl (yaR _ _ _) ?c2 (by decide) ?c3 ?c4 ?_)
  case c2=>first|(intro u hu;simp at hu;subst hu;rfl)|rfl
  case c3=>unfold maxLen;omega
  case c4=>omega
  intro g cap wa hoa hga hfa hda;have Hn:=jX (Hrow.out.step (d:=d) hoa hga hfa hda);clear hoa hga hfa hda;go_wp2_with fail;go_roundw
  case rel=>exact ⟨i+1,by omega,by go_num,by rw [← Hnext.out];exact congrArg (Value.int .i64) (by omega),l++[d],by rw [Hsn.out,← Hl.out],Hn.out⟩
  case measure=>simp [intOf];omega
theorem minus_c (w:World) (v1 v2:Value) (A B:Nat) (h1:DR w v1 A) (h2:DR w v2 B) (hA:Ln A≤1000000000) (hBA:B≤A) :
  Calls prog 141 #[v1,v2] w (Digits w (A-B)):=by
 obtain⟨i0,hi,hz0,hz1,hz2⟩:=yaQ infoInt;have Hi:=jX (And.intro hi (And.intro hz0 (And.intro hz1 hz2)));clear hi hz0 hz1 hz2;have hB:Ln B≤1000000000:=Nat.le_trans (Ln_mono hBA) hA;obtain⟨ao,ac,rfl,_⟩:=h1.form;obtain⟨bo,bc,rfl,_⟩:=h2.form;obtain⟨n,hn⟩:∃ n,Ln A=n:=⟨_,rfl⟩;obtain⟨m,hm⟩:∃ m,Ln B=m:=⟨_,rfl⟩;have Hca:Hid (∀ w',Keep [] w w'→∀ i,i<n→∃ g o,ao=some ⟨g,o,none⟩∧g<w'.heap.size∧w'.cell? ⟨g,o+i,none⟩=some (.int .i64 ((A / 256 ^ i % 256:Nat):Int))):=fun w' hk i hi=>(h1.later hk).cell (by omega);have Hcb:Hid (∀ w',Keep [] w w'→∀ i,i<m→∃ g o,bo=some ⟨g,o,none⟩∧g<w'.heap.size∧w'.cell? ⟨g,o+i,none⟩=some (.int .i64 ((B / 256 ^ i % 256:Nat):Int))):=fun w' hk i hi=>(h2.later hk).cell (by omega);have Hzb:Hid (∀ i,¬ i<m→B / 256 ^ i % 256=0):=fun i h=>Ln_high (by omega);have HLa:Hid (A<256 ^ n):=by rw [← hn];exact Ln_lt A
 have HBA:=jX hBA;rw [hn] at hA ⊢;rw [hm] at hB ⊢;clear h1 h2 hn hm hBA;go_enter func141,ntmps141
 go_wp2_with fail;go_loopw [5,6,7] (fun b c x wr=>∃ i:Nat,i≤n∧x = .int .i64 (i:Int)∧c = .int .i64 (yaB 256 i A B:Nat)∧∃ l,l=dl 256 i (A-B)∧OI w wr b l) (fun _ _ x _=>n-(intOf x).toNat)
 case atStart=>exact ⟨0,by omega,rfl,by rw [ydm];rfl,_,rfl,OI.nil _⟩
 case round =>
  obtain⟨i,hi,rfl,rfl,l,hl,hoi⟩:=hrel;have Hrow:=jX hoi;have hl9:l.length≤1000000001:=by rw [hl,yaP];omega
  obtain⟨po,pc,rfl⟩:=hoi.form;have Hl:=jX hl;clear hl hoi;by_cases ha:i<n
  ·obtain⟨g1,o1,rfl,hg1,c1⟩:=Hca.out wr Hrow.out.keep i ha
   have x9:=Nat.mod_lt (A / 256 ^ i) (show 0<256 by decide)
   have y9:=Nat.mod_lt (B / 256 ^ i) (show 0<256 by decide)
   have d9:=Nat.mod_lt ((A-B) / 256 ^ i) (show 0<256 by decide)
   obtain⟨hs1,hs2⟩:=yct (show 0<256 by decide) i A B HBA.out
   have Hsn:=jX (ydC 256 i (A-B));have hc1:yaB 256 i A B≤1:=by unfold yaB;split<;>omega
   by_cases hb:i<m
   ·obtain⟨g2,o2,rfl,hg2,c2⟩:=Hcb.out wr Hrow.out.keep i hb
    generalize A / 256 ^ i % 256=x at *;generalize B / 256 ^ i % 256=y at *;generalize (A-B) / 256 ^ i % 256=d at *;generalize yaB 256 i A B=c at *;by_cases hbr:x<y+c
    ·obtain⟨e1,e2⟩:=hs1 hbr
     have He1:=jX e1;have hbz:(x:Int)-c-y<0:=by omega
     have hd2:(x:Int)-c-y+256=d:=by omega
     clear hs1 hs2 e1 e2;go_wp2_with (at_builtin;refine yao _ rfl _ _ 133 rfl 3 i0 _ 1 8 underlying133 Hi.out.1 Hi.out.2.1 Hi.out.2.2.1 Hi.out.2.2.2 rfl (by decide) _ _ _ rfl (yay Hrow.out.row (Keep.alloc [] _ _) (by simp)) ⟨wr.heap.size,0,none⟩ 1 1 [.int .i64 (d)] rfl rfl (yaR _ _ _) ?c2 (by decide) ?c3 ?c4 ?_)
     case c2=>first|(intro u hu;simp at hu;subst hu;rfl)|rfl
     case c3=>unfold maxLen;omega
     case c4=>omega
     intro g cap wa hoa hga hfa hda;have Hn:=jX (Hrow.out.step (d:=d) hoa hga hfa hda);clear hoa hga hfa hda;go_wp2_with fail;go_roundw
     case rel=>exact ⟨i+1,by omega,by go_num,by rw [He1.out];rfl,l++[d],by rw [Hsn.out,← Hl.out],Hn.out⟩
     case measure=>simp [intOf];omega
    obtain⟨e1,e2⟩:=hs2 hbr;have He1:=jX e1;have hbz:¬ (x:Int)-c-y<0:=by omega
    have hd2:(x:Int)-c-y=d:=by omega
    clear hs1 hs2 e1 e2;go_wp2_with (at_builtin;refine yao _ rfl _ _ 133 rfl 3 i0 _ 1 8 underlying133 Hi.out.1 Hi.out.2.1 Hi.out.2.2.1 Hi.out.2.2.2 rfl (by decide) _ _ _ rfl (yay Hrow.out.row (Keep.alloc [] _ _) (by simp)) ⟨wr.heap.size,0,none⟩ 1 1 [.int .i64 (d)] rfl rfl (yaR _ _ _) ?c2 (by decide) ?c3 ?c4 ?_)
    case c2=>first|(intro u hu;simp at hu;subst hu;rfl)|rfl
    case c3=>unfold maxLen;omega
    case c4=>omega
    intro g cap wa hoa hga hfa hda;have Hn:=jX (Hrow.out.step (d:=d) hoa hga hfa hda);clear hoa hga hfa hda;go_wp2_with fail;go_roundw
    case rel=>exact ⟨i+1,by omega,by go_num,by rw [He1.out];rfl,l++[d],by rw [Hsn.out,← Hl.out],Hn.out⟩
    case measure=>simp [intOf];omega
   have hy0:=Hzb.out i hb;rw [hy0] at hs1 hs2;generalize A / 256 ^ i % 256=x at *;generalize (A-B) / 256 ^ i % 256=d at *;generalize yaB 256 i A B=c at *;by_cases hbr:x<0+c
   ·obtain⟨e1,e2⟩:=hs1 hbr
    have He1:=jX e1;have hbz:(x:Int)-c<0:=by omega
    have hd2:(x:Int)-c+256=d:=by omega
    clear hs1 hs2 e1 e2 hy0;go_wp2_with (at_builtin;refine yao _ rfl _ _ 133 rfl 3 i0 _ 1 8 underlying133 Hi.out.1 Hi.out.2.1 Hi.out.2.2.1 Hi.out.2.2.2 rfl (by decide) _ _ _ rfl (yay Hrow.out.row (Keep.alloc [] _ _) (by simp)) ⟨wr.heap.size,0,none⟩ 1 1 [.int .i64 (d)] rfl rfl (yaR _ _ _) ?c2 (by decide) ?c3 ?c4 ?_)
    case c2=>first|(intro u hu;simp at hu;subst hu;rfl)|rfl
    case c3=>unfold maxLen;omega
    case c4=>omega
    intro g cap wa hoa hga hfa hda;have Hn:=jX (Hrow.out.step (d:=d) hoa hga hfa hda);clear hoa hga hfa hda;go_wp2_with fail;go_roundw
    case rel=>exact ⟨i+1,by omega,by go_num,by rw [He1.out];rfl,l++[d],by rw [Hsn.out,← Hl.out],Hn.out⟩
    case measure=>simp [intOf];omega
   obtain⟨e1,e2⟩:=hs2 hbr;have He1:=jX e1;have hbz:¬ (x:Int)-c<0:=by omega
   have hd2:(x:Int)-c=d:=by omega
   clear hs1 hs2 e1 e2 hy0;go_wp2_with (at_builtin;refine yao _ rfl _ _ 133 rfl 3 i0 _ 1 8 underlying133 Hi.out.1 Hi.out.2.1 Hi.out.2.2.1 Hi.out.2.2.2 rfl (by decide) _ _ _ rfl (yay Hrow.out.row (Keep.alloc [] _ _) (by simp)) ⟨wr.heap.size,0,none⟩ 1 1 [.int .i64 (d)] rfl rfl (yaR _ _ _) ?c2 (by decide) ?c3 ?c4 ?_)
   case c2=>first|(intro u hu;simp at hu;subst hu;rfl)|rfl
   case c3=>unfold maxLen;omega
   case c4=>omega
   intro g cap wa hoa hga hfa hda;have Hn:=jX (Hrow.out.step (d:=d) hoa hga hfa hda);clear hoa hga hfa hda;go_wp2_with fail;go_roundw
   case rel=>exact ⟨i+1,by omega,by go_num,by rw [He1.out];rfl,l++[d],by rw [Hsn.out,← Hl.out],Hn.out⟩
   case measure=>simp [intOf];omega
  obtain rfl:i=n:=by omega
  have hS:A-B<256 ^ i:=Nat.lt_of_le_of_lt (Nat.sub_le _ _) HLa.out;have HT:=jX (ydl wr _ l (by omega) Hrow.out.read Hrow.out.cap);have HS:=jX hS;clear hS;go_wp2_with fail;refine HT.out.mono ?_;rintro e w2 ⟨ht,rfl⟩;obtain⟨v,rfl,hdr⟩:=ybe ht (by rw [Hl.out];exact yjg (by decide) _ _);rw [Hl.out,yfi (by decide) _ _ HS.out] at hdr;have Hdr:=jX hdr;clear ht hdr HT;dsimp only;go_wp2_with fail;go_ret
  exact ⟨v,rfl,Hdr.out,Hrow.out.keep⟩
theorem up_lt {A B i:Nat} (h:A / 256 ^ (i+1)=B / 256 ^ (i+1)) (hx:A / 256 ^ i % 256<B / 256 ^ i % 256):A<B:=by
 have e:∀ N:Nat,N / 256 ^ i=256*(N / 256 ^ (i+1))+N / 256 ^ i % 256:=fun N=>by rw [Nat.pow_succ,← Nat.div_div_eq_div_mul,Nat.div_add_mod]
 have h1:A / 256 ^ i<B / 256 ^ i:=by rw [e A,e B,h];omega
 rcases Nat.lt_or_ge A B with h2|h2
 ·exact h2
 have:=Nat.div_le_div_right (c:=256 ^ i) h2;omega
theorem up_eq {A B i:Nat} (h:A / 256 ^ (i+1)=B / 256 ^ (i+1)) (hx:A / 256 ^ i % 256=B / 256 ^ i % 256):A / 256 ^ i=B / 256 ^ i:=by
 have e:∀ N:Nat,N / 256 ^ i=256*(N / 256 ^ (i+1))+N / 256 ^ i % 256:=fun N=>by rw [Nat.pow_succ,← Nat.div_div_eq_div_mul,Nat.div_add_mod]
 rw [e A,e B,h,hx]
theorem ygx {a b:Nat} (h:a<b):Lib.compareInt (a:Int) b = -1:=by unfold Lib.compareInt;rw [if_pos (by omega)]
theorem yhI {a b:Nat} (h:b<a):Lib.compareInt (a:Int) b=1:=by unfold Lib.compareInt;rw [if_neg (by omega),if_pos (by omega)]
theorem yaT (w:World) (v1 v2:Value) (A B:Nat) (h1:DR w v1 A) (h2:DR w v2 B) (hA:Ln A≤1000000000) (hB:Ln B≤1000000000) :
  Calls prog 140 #[v1,v2] w fun e w'=>e = .returned (.int .i64 (Lib.compareInt A B))∧Keep [] w w':=by
 obtain⟨ao,ac,rfl,_⟩:=h1.form;obtain⟨bo,bc,rfl,_⟩:=h2.form;by_cases hlen:Ln A=Ln B
 ·obtain⟨n,hn⟩:∃ n,Ln A=n:=⟨_,rfl⟩
  have hm:Ln B=n:=by omega
  have Hca:Hid (∀ w',Keep [] w w'→∀ i,i<n→∃ g o,ao=some ⟨g,o,none⟩∧g<w'.heap.size∧w'.cell? ⟨g,o+i,none⟩=some (.int .i64 ((A / 256 ^ i % 256:Nat):Int))):=fun w' hk i hi=>(h1.later hk).cell (by omega);have Hcb:Hid (∀ w',Keep [] w w'→∀ i,i<n→∃ g o,bo=some ⟨g,o,none⟩∧g<w'.heap.size∧w'.cell? ⟨g,o+i,none⟩=some (.int .i64 ((B / 256 ^ i % 256:Nat):Int))):=fun w' hk i hi=>(h2.later hk).cell (by omega);have HLa:Hid (A<256 ^ n):=by rw [← hn];exact Ln_lt A
  have HLb:Hid (B<256 ^ n):=by rw [← hm];exact Ln_lt B
  rw [hn] at hA ⊢;rw [hm] at hB ⊢;clear h1 h2 hn hm hlen;go_enter func140,ntmps140
  go_wp2_with fail;go_loopw [5] (fun x wr=>∃ i:Nat,i≤n∧x = .int .i64 ((i:Int)-1)∧A / 256 ^ i=B / 256 ^ i∧Keep [] w wr) (fun x _=>(intOf x+1).toNat)
  case atStart=>exact ⟨n,Nat.le_refl _,rfl,by rw [Nat.div_eq_of_lt HLa.out,Nat.div_eq_of_lt HLb.out],Keep.refl _ _⟩
  case round =>
   obtain⟨j,hj,rfl,he,hk⟩:=hrel;have He:=jX he;have Hk:=jX hk;clear he hk;by_cases hj0:j=0
   ·subst hj0
    have hab:A=B:=by have:=He.out;simpa using this
    have e:Lib.compareInt (A:Int) B=0:=by unfold Lib.compareInt;rw [hab];simp
    have HC:=jX e;clear hab e He;go_wp2_with fail;go_ret
    exact ⟨by rw [HC.out];rfl,Hk.out⟩
   obtain⟨i,rfl⟩:∃ i,j=i+1:=⟨j-1,by omega⟩;rw [show (((i+1:Nat):Int)-1)=(i:Int) by omega]
   have hin:i<n:=by omega
   obtain⟨g1,o1,rfl,hg1,c1⟩:=Hca.out wr Hk.out i hin;obtain⟨g2,o2,rfl,hg2,c2⟩:=Hcb.out wr Hk.out i hin;have Hlt:=jX (fun h=>up_lt He.out h);have Hgt:=jX (fun h=>up_lt He.out.symm h);have Heq:=jX (fun h=>up_eq He.out h)
   have K1:∀ m:KW wr,(Wk wr m).cell? ⟨g1,o1+i,none⟩=some (.int .i64 ((A / 256 ^ i % 256:Nat):Int)):=fun m=>by
    obtain⟨g,o,h1,_,h3⟩:=Hca.out m.x (Hk.out.tz m.k) i hin;injection h1 with h1;injection h1 with h1 h2 h4;subst h1 h2;exact h3
   have K2:∀ m:KW wr,(Wk wr m).cell? ⟨g2,o2+i,none⟩=some (.int .i64 ((B / 256 ^ i % 256:Nat):Int)):=fun m=>by
    obtain⟨g,o,h1,_,h3⟩:=Hcb.out m.x (Hk.out.tz m.k) i hin;injection h1 with h1;injection h1 with h1 h2 h4;subst h1 h2;exact h3
   have x9:=Nat.mod_lt (A / 256 ^ i) (show 0<256 by decide)
   have y9:=Nat.mod_lt (B / 256 ^ i) (show 0<256 by decide)
   clear c1 c2 hj0;generalize A / 256 ^ i % 256=x at *;generalize B / 256 ^ i % 256=y at *;by_cases hxy:x<y
   ·have HC:=jX (ygx (Hlt.out hxy))
    have t:decide ((x:Int)<(y:Int))=true:=by simpa using hxy
    go_wp2_with fail;refine yac (by kernel_rfl) (by kernel_rfl) ?_
    repeat (first
     | go_big_quiet_skip
     | (go_big_quiet_want;go_big_quiet_op;go_big_quiet_on))
    refine wpQuiet_nil ?_;rintro wa ⟨⟨_,hk_wa⟩,rfl⟩;have Hka:=jX (Hk.out.tz hk_wa);clear hk_wa K1 K2;go_wp2_with fail;go_ret
    exact ⟨by rw [HC.out];rfl,Hka.out⟩
   have t:decide ((x:Int)<(y:Int))=false:=by simpa using hxy
   by_cases hyx:y<x
   ·have HC:=jX (yhI (Hgt.out hyx))
    have t2:decide ((y:Int)<(x:Int))=true:=by simpa using hyx
    go_wp2_with fail;refine yac (by kernel_rfl) (by kernel_rfl) ?_
    repeat (first
     | go_big_quiet_skip
     | (go_big_quiet_want;go_big_quiet_op;go_big_quiet_on))
    refine wpQuiet_nil ?_;rintro wa ⟨⟨_,hk_wa⟩,rfl⟩;have hka:=hk_wa;have K3:∀ m:KW wa,(Wk wa m).cell? ⟨g1,o1+i,none⟩=some (.int .i64 (x:Int)):=fun m=>K1 ⟨m.x,hka.tz m.k⟩;have K4:∀ m:KW wa,(Wk wa m).cell? ⟨g2,o2+i,none⟩=some (.int .i64 (y:Int)):=fun m=>K2 ⟨m.x,hka.tz m.k⟩;have Hka:=jX (Hk.out.tz hk_wa);have hs1:=hk_wa.size;have hg3:g1<wa.heap.size:=by omega
    have hg4:g2<wa.heap.size:=by omega
    clear hk_wa K1 K2 hka;go_wp2_with fail;refine yac (by kernel_rfl) (by kernel_rfl) ?_
    repeat (first
     | go_big_quiet_skip
     | (go_big_quiet_want;go_big_quiet_op;go_big_quiet_on))
    refine wpQuiet_nil ?_;rintro wb ⟨⟨_,hk_wb⟩,rfl⟩;have Hkb:=jX (Hka.out.tz hk_wb);clear hk_wb K3 K4;go_wp2_with fail;go_ret
    exact ⟨by rw [HC.out];rfl,Hkb.out⟩
   have t2:decide ((y:Int)<(x:Int))=false:=by simpa using hyx
   have Hup:=jX (Heq.out (by omega));go_wp2_with fail;refine yac (by kernel_rfl) (by kernel_rfl) ?_
   repeat (first
    | go_big_quiet_skip
    | (go_big_quiet_want;go_big_quiet_op;go_big_quiet_on))
   refine wpQuiet_nil ?_;rintro wa ⟨⟨_,hk_wa⟩,rfl⟩;have hka:=hk_wa;have K3:∀ m:KW wa,(Wk wa m).cell? ⟨g1,o1+i,none⟩=some (.int .i64 (x:Int)):=fun m=>K1 ⟨m.x,hka.tz m.k⟩;have K4:∀ m:KW wa,(Wk wa m).cell? ⟨g2,o2+i,none⟩=some (.int .i64 (y:Int)):=fun m=>K2 ⟨m.x,hka.tz m.k⟩;have Hka:=jX (Hk.out.tz hk_wa);have hs1:=hk_wa.size;have hg3:g1<wa.heap.size:=by omega
   have hg4:g2<wa.heap.size:=by omega
   clear hk_wa K1 K2 hka;go_wp2_with fail;refine yac (by kernel_rfl) (by kernel_rfl) ?_
   repeat (first
    | go_big_quiet_skip
    | (go_big_quiet_want;go_big_quiet_op;go_big_quiet_on))
   refine wpQuiet_nil ?_;rintro wb ⟨⟨_,hk_wb⟩,rfl⟩;have Hkb:=jX (Hka.out.tz hk_wb);clear hk_wb K3 K4;go_wp2_with fail;go_roundw
   case rel=>exact ⟨i,by omega,rfl,Hup.out,Hkb.out⟩
   case measure=>simp [intOf]
 have hlt:Ln A<Ln B→A<B:=fun h=>by
  rcases Nat.lt_or_ge A B with h2|h2
  ·exact h2
  have:=Ln_mono h2;omega
 have hgt:Ln B<Ln A→B<A:=fun h=>by
  rcases Nat.lt_or_ge B A with h2|h2
  ·exact h2
  have:=Ln_mono h2;omega
 have hne:((Ln A:Int) != (Ln B:Int))=true:=by rw [bne_iff_ne];omega
 by_cases h:Ln A<Ln B
 ·rw [ygx (hlt h)]
  clear hlt hgt h1 h2 hlen;generalize Ln A=n at *;generalize Ln B=m at *;go_enter func140,ntmps140
  go_wp2_with fail;go_ret
  exact ⟨rfl,Keep.refl _ _⟩
 rw [yhI (hgt (by omega))];clear hlt hgt h1 h2 hlen;generalize Ln A=n at *;generalize Ln B=m at *;go_enter func140,ntmps140
 go_wp2_with fail;go_ret
 exact ⟨rfl,Keep.refl _ _⟩
end Go.Proofs.YtejegogbhpmgfaaGreatDoor
