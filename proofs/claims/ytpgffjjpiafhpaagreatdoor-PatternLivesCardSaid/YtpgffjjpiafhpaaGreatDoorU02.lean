/- Parts of a proof: Nu Na Di. -/
import Derived.Lib.Bytealg
import Derived.Lib.Small
import Derived.Lib.Hide
import Derived.Laws.BitsLemmas
import Derived.Lib.ItoaNum
import Derived.RangeFuncRecord
import Derived.Test.YtpgffjjpiafhpaaGreatDoorU01
set_option linter.unusedVariables false
set_option linter.unusedSimpArgs false
set_option maxRecDepth 100000
set_option maxHeartbeats 8000000
namespace Go.Proofs.YtpgffjjpiafhpaaGreatDoor
open Go.RowKit Tryz
def natL (l:List UInt8):Nat:=l.foldl (fun n b=>n*256+b.toNat) 0
theorem yjh (l:List UInt8):∀ n:Nat,l.foldl (fun n b=>n*256+b.toNat) n=n*256 ^ l.length+natL l:=by
 induction l with
 | nil=>intro n;simp [natL]
 | cons b l ih =>
  intro n;unfold natL;simp only [List.foldl_cons,List.length_cons];rw [ih,ih (0*256+b.toNat),Nat.pow_succ];rw [Nat.add_mul,Nat.zero_mul,Nat.zero_add,Nat.add_assoc,Nat.mul_assoc n 256,Nat.mul_comm 256]
theorem ydh (a b:List UInt8):natL (a++b)=natL a*256 ^ b.length+natL b:=by
 unfold natL;rw [List.foldl_append,yjh];rfl
theorem natL_nil:natL []=0:=rfl
theorem yix (b:UInt8):natL [b]=b.toNat:=by simp [natL]
theorem ydE (a:List UInt8) (b:UInt8):natL (a++[b])=natL a*256+b.toNat:=by rw [ydh,yix];simp
theorem ybE (b:UInt8) (l:List UInt8):natL (b :: l)=b.toNat * 256 ^ l.length+natL l:=by
 have:=ydh [b] l;rw [yix] at this;exact this
theorem ycK (l:List UInt8):natL l<256 ^ l.length:=by
 induction l with
 | nil=>simp [natL]
 | cons b l ih =>
  rw [ybE,List.length_cons,Nat.pow_succ];have:=b.toNat_lt
  have h:b.toNat * 256 ^ l.length+256 ^ l.length≤256*256 ^ l.length:=by
   rw [← Nat.succ_mul];exact Nat.mul_le_mul_right _ (by omega)
  rw [Nat.mul_comm (256 ^ l.length)];omega
def CanL (l:List UInt8):Prop:=∀ b,l.head? = some b→b≠0
theorem yhZ {b:UInt8} {l:List UInt8} (h:b≠0):256 ^ l.length≤natL (b :: l):=by
 rw [ybE]
 have:1≤b.toNat:=by
  rcases Nat.eq_zero_or_pos b.toNat with h0|h0
  ·exact absurd (UInt8.toNat_inj.1 (by simpa using h0)) h
  exact h0
 have:=Nat.mul_le_mul_right (256 ^ l.length) this;omega
def magL:Nat→List UInt8
 | 0=>[]
 | n+1=>magL ((n+1) / 256)++[UInt8.ofNat ((n+1) % 256)]
theorem magL_zero:magL 0=[]:=by unfold magL;rfl
theorem yeu {n:Nat} (h:0<n):magL n=magL (n / 256)++[UInt8.ofNat (n % 256)]:=by
 obtain⟨m,rfl⟩:∃ m,n=m+1:=⟨n-1,by omega⟩;rw [magL]
theorem ydi (n:Nat):natL (magL n)=n:=by
 induction n using Nat.strongRecOn with
 | _ n ih =>
  rcases Nat.eq_zero_or_pos n with rfl|h
  ·rw [magL_zero];rfl
  rw [yeu h,ydE,ih _ (by omega)];have:(UInt8.ofNat (n % 256)).toNat=n % 256:=by simp
  omega
theorem yiQ (n:Nat):CanL (magL n):=by
 induction n using Nat.strongRecOn with
 | _ n ih =>
  rcases Nat.eq_zero_or_pos n with rfl|h
  ·rw [magL_zero];intro b hb;simp at hb
  rw [yeu h];intro b hb;by_cases h2:n / 256=0
  ·rw [h2,magL_zero,List.nil_append] at hb
   simp at hb;subst hb;intro e;have:(UInt8.ofNat (n % 256)).toNat=n % 256:=by simp
   rw [e] at this;simp at this;omega
  have hne:magL (n / 256)≠[]:=by
   intro e;have:=ydi (n / 256);rw [e] at this;exact h2 this.symm
  obtain⟨c,l,hl⟩:=List.exists_cons_of_ne_nil hne;have hi:=ih (n / 256) (by omega);rw [hl] at hb hi;simp at hb;subst hb;exact hi c rfl
theorem CanL.init {l:List UInt8} {b:UInt8} (h:CanL (l++[b])):CanL l:=by
 intro c hc;refine h c ?_;cases l with
 | nil=>simp at hc
 | cons a l=>simpa using hc
theorem ygq (l:List UInt8) (h:CanL l):magL (natL l)=l:=by
 obtain⟨r,rfl⟩:∃ r:List UInt8,l=r.reverse:=⟨l.reverse,by simp⟩;induction r with
 | nil=>exact magL_zero
 | cons b r ih =>
  rw [List.reverse_cons] at h ⊢;rw [ydE];have hb:=b.toNat_lt
  have hpos:0<natL r.reverse*256+b.toNat:=by
   rcases hr:r.reverse with _|⟨c,l⟩
   ·rw [hr] at h
    have:=h b rfl;have:b.toNat≠0:=fun e=>this (UInt8.toNat_inj.1 (by simpa using e));omega
   rw [hr] at h;have:=yhZ (l:=l) (h c rfl);have:=Nat.pow_pos (n:=l.length) (show 0<256 by decide)
   omega
  rw [yeu hpos,show (natL r.reverse*256+b.toNat) / 256=natL r.reverse by omega,show (natL r.reverse*256+b.toNat) % 256=b.toNat by omega,ih h.init]
  congr 1
  simp
theorem ycy (n k:Nat):(magL n).length≤k↔n<256 ^ k:=by
 constructor
 ·intro h
  have:=ycK (magL n);rw [ydi] at this;exact Nat.lt_of_lt_of_le this (Nat.pow_le_pow_right (by decide) h)
 intro h;rcases Nat.lt_or_ge k (magL n).length with h1|h1
 ·exfalso
  rcases hl:magL n with _|⟨c,l⟩
  ·rw [hl] at h1;simp at h1
  have hc:=yiQ n;rw [hl] at hc h1;have:=yhZ (l:=l) (hc c rfl);rw [← hl,ydi] at this;have:256 ^ k≤256 ^ l.length:=Nat.pow_le_pow_right (by decide) (by simp at h1;omega);omega
 exact h1
def natB (s:ByteArray):Nat:=natL s.data.toList
def magS (n:Nat):ByteArray:=⟨(magL n).toArray⟩
theorem yat (n:Nat):natB (magS n)=n:=ydi n
theorem yaT (n k:Nat):(magS n).size≤k↔n<256 ^ k:=by
 rw [← ycy];rfl
theorem ydr {m n:Nat}:magS m=magS n↔m=n:=⟨fun h=>by rw [← yat m,h,yat],fun h=>by rw [h]⟩
theorem magS_zero:magS 0=⟨#[]⟩:=by unfold magS;rw [magL_zero]
theorem ybx {n:Nat}:magS n=⟨#[]⟩↔n=0:=by rw [← magS_zero,ydr]
def CanS (s:ByteArray):Prop:=CanL s.data.toList
theorem yce (n:Nat):CanS (magS n):=yiQ n
theorem ycf (s:ByteArray) (h:CanS s):magS (natB s)=s:=by
 unfold magS natB;rw [ygq _ h]
theorem yct (s:ByteArray):natB s<256 ^ s.size:=ycK _
theorem cmp_lists:∀ a b:List UInt8,a.length=b.length→Go.Lib.compareBytes a b=Go.Lib.compareInt (natL a) (natL b)
 | [],[],_=>by decide
 | x :: a,y :: b,h=>by
  simp only [List.length_cons,Nat.add_right_cancel_iff] at h;have ih:=cmp_lists a b h;have ha:=ycK a;have hb:=ycK b;rw [ybE,ybE,h];rw [h] at ha;unfold Go.Lib.compareBytes
  have key:∀ u v:Nat,u<v→u*256 ^ b.length+natL a<v*256 ^ b.length+natL b:=fun u v huv=>by
   have:(u+1)*256 ^ b.length≤v*256 ^ b.length:=Nat.mul_le_mul_right _ huv;rw [Nat.succ_mul] at this;omega
  have key2:∀ u v:Nat,u<v→u*256 ^ b.length+natL b<v*256 ^ b.length+natL a:=fun u v huv=>by
   have:(u+1)*256 ^ b.length≤v*256 ^ b.length:=Nat.mul_le_mul_right _ huv;rw [Nat.succ_mul] at this;omega
  unfold Go.Lib.compareInt;by_cases h1:x<y
  ·have:=key x.toNat y.toNat (UInt8.lt_iff_toNat_lt.1 h1)
   rw [if_pos h1,if_pos (by omega)]
  rw [if_neg h1];by_cases h2:y<x
  ·have:=key2 y.toNat x.toNat (UInt8.lt_iff_toNat_lt.1 h2)
   rw [if_pos h2,if_neg (by omega),if_pos (by omega)]
  have e:x=y:=by
   rw [UInt8.lt_iff_toNat_lt] at h1 h2;exact UInt8.toNat_inj.1 (by omega)
  subst e;rw [if_neg h2,ih];unfold Go.Lib.compareInt;generalize x.toNat * 256 ^ b.length=t;have e1:(((t+natL a:Nat):Int)<((t+natL b:Nat):Int))=((natL a:Int)<natL b):=by rw [eq_iff_iff];omega
  have e2:(((t+natL a:Nat):Int) > ((t+natL b:Nat):Int))=((natL a:Int) > natL b):=by rw [eq_iff_iff];omega
  simp only [e1,e2]
theorem cmp_mags (m n:Nat):(if (magL m).length<(magL n).length then (-1:Int) else if (magL n).length<(magL m).length then 1 else Go.Lib.compareBytes (magL m) (magL n))=Go.Lib.compareInt m n:=by
 have key:∀ a b:Nat,(magL a).length<(magL b).length→a<b:=fun a b h=>by
  rcases Nat.lt_or_ge a b with h1|h1
  ·exact h1
  exfalso
  have h2:b<256 ^ (magL a).length:=by
   have:=ycK (magL a);rw [ydi] at this;omega
  have:=(ycy b (magL a).length).2 h2;omega
 unfold Go.Lib.compareInt;by_cases h1:(magL m).length<(magL n).length
 ·have:=key m n h1
  rw [if_pos h1,if_pos (by omega)]
 rw [if_neg h1];by_cases h2:(magL n).length<(magL m).length
 ·have:=key n m h2
  rw [if_pos h2,if_neg (by omega),if_pos (by omega)]
 rw [if_neg h2,cmp_lists _ _ (by omega),ydi,ydi];rfl
def val (B:Nat):List Nat→Nat
 | []=>0
 | d :: l=>d+B*val B l
theorem yjg (B:Nat) (a b:List Nat):val B (a++b)=val B a+B ^ a.length*val B b:=by
 induction a with
 | nil=>simp [val]
 | cons d a ih =>
  rw [List.cons_append,val,val,ih,List.length_cons,Nat.pow_succ,Nat.mul_add,← Nat.mul_assoc,Nat.mul_comm B (B ^ a.length)];omega
theorem val_snoc (B:Nat) (a:List Nat) (d:Nat):val B (a++[d])=val B a+B ^ a.length*d:=by rw [yjg];simp [val]
theorem val_lt {B:Nat} (l:List Nat) (h:∀ d∈l,d<B):val B l<B ^ l.length:=by
 induction l with
 | nil=>simp [val]
 | cons d l ih =>
  have h1:=ih fun x hx=>h x (List.mem_cons_of_mem _ hx);have h2:=h d (by simp);rw [val,List.length_cons,Nat.pow_succ,Nat.mul_comm (B ^ l.length) B];have h3:B*(val B l+1)≤B*B ^ l.length:=Nat.mul_le_mul_left B h1;rw [Nat.mul_add,Nat.mul_one] at h3;omega
def trimD (l:List Nat):List Nat:=(l.reverse.dropWhile (· == 0)).reverse
theorem ybU (l:List Nat):trimD (l++[0])=trimD l:=by unfold trimD;simp
theorem yea {l:List Nat} {d:Nat} (h:d≠0):trimD (l++[d])=l++[d]:=by unfold trimD;simp [List.dropWhile_cons,h]
theorem trimD_nil:trimD []=[]:=rfl
theorem val_trimD (B:Nat) (l:List Nat):val B (trimD l)=val B l:=by
 obtain⟨r,rfl⟩:∃ r:List Nat,l=r.reverse:=⟨l.reverse,by simp⟩;induction r with
 | nil=>rfl
 | cons d r ih =>
  rw [List.reverse_cons];by_cases h:d=0
  ·subst h;rw [ybU,ih,val_snoc];simp
  rw [yea h]
theorem trimD_mem {l:List Nat} {d:Nat} (h:d∈trimD l):d∈l:=by
 unfold trimD at h;rw [List.mem_reverse] at h;exact List.mem_reverse.1 ((List.dropWhile_sublist _).subset h)
theorem trimD_take (l:List Nat):∃ k,k≤l.length∧trimD l=l.take k:=by
 obtain⟨r,rfl⟩:∃ r:List Nat,l=r.reverse:=⟨l.reverse,by simp⟩;induction r with
 | nil=>exact ⟨0,by simp,rfl⟩
 | cons d r ih =>
  rw [List.reverse_cons];by_cases h:d=0
  ·subst h
   obtain⟨k,h1,h2⟩:=ih;refine ⟨k,by simp at h1 ⊢;omega,?_⟩;rw [ybU,h2,List.take_append_of_le_length h1]
  exact ⟨(r.reverse++[d]).length,Nat.le_refl _,by rw [yea h,List.take_length]⟩
section
variable {B V P Yl T Xl g:Nat}
theorem kn_up (hP:0<P) (hX:Xl<P) (h:T<g*V):(T*P+Xl) / (V*P+Yl)<g:=by
 rcases Nat.eq_zero_or_pos (V*P+Yl) with h0|h0
 ·rw [h0,Nat.div_zero]
  rcases Nat.eq_zero_or_pos g with h1|h1
  ·rw [h1,Nat.zero_mul] at h;omega
  exact h1
 rw [Nat.div_lt_iff_lt_mul h0];have h1:(T+1)*P≤g*V*P:=Nat.mul_le_mul_right P h;rw [Nat.succ_mul] at h1;have h2:g*(V*P+Yl)=g*V*P+g*Yl:=by rw [Nat.mul_add,Nat.mul_assoc]
 omega
theorem kn_near (hY:Yl<P) (hg:g≤V+1) (h:g*V≤T) (hV:0<V):g≤(T*P+Xl) / (V*P+Yl)+1:=by
 rcases Nat.eq_zero_or_pos g with h1|h1
 ·rw [h1];exact Nat.zero_le _
 obtain⟨k,rfl⟩:∃ k,g=k+1:=⟨g-1,by omega⟩;have hP:0<P:=by omega
 have h0:0<V*P+Yl:=by have:=Nat.mul_pos hV hP;omega
 suffices hs:k≤(T*P+Xl) / (V*P+Yl) from Nat.succ_le_succ hs
 rw [Nat.le_div_iff_mul_le h0];have h2:(k+1)*V*P≤T*P:=Nat.mul_le_mul_right P h;have h3:(k+1)*V*P=k*(V*P)+V*P:=by rw [Nat.succ_mul,Nat.add_mul,Nat.mul_assoc]
 have h4:k*Yl≤V*P:=Nat.mul_le_mul (by omega) (by omega);rw [Nat.mul_add];omega
end
theorem or_u64 (t b:Nat) (ht:t<72057594037927936) (hb:b≤255):bits BinOp.or IntKind.u64 ((t:Int)*256) (b:Int)=((b+256*t:Nat):Int):=by
 rw [bits_join .u64 64 (by decide) (fun n h0 h1=>by rw [IntKind.wrap_u64];omega) 8 _ _ (by omega) (by omega) (by omega) (by omega) (by omega) (by omega)];omega
theorem natL_take (l:List UInt8) (i:Nat) (h:i<l.length):natL (l.take (i+1))=natL (l.take i)*256+l[i].toNat:=by
 rw [List.take_add_one,List.getElem?_eq_getElem h,Option.toList_some,ydE]
theorem ygA (l:List UInt8) (i:Nat):natL (l.take i)<256 ^ i:=by
 have h:=ycK (l.take i);exact Nat.lt_of_lt_of_le h (Nat.pow_le_pow_right (by decide) (by rw [List.length_take];omega))
theorem ygd (s:ByteArray) (hs:s.size≤8) (w:World) :
  Calls prog 215 #[.string s] w fun e w'=>e = .returned (.tuple #[.int .u64 (natB s),.bool true])∧w'=w:=by
 go_enter func215,ntmps215
 go_wp2_with fail;go_loopw [4,11] (fun u i wr=>∃ k:Nat,k≤s.size∧i = .int .i64 k∧u = .int .u64 (natL (s.data.toList.take k))∧wr=w) (fun _ i _=>s.size-(intOf i).toNat)
 case atStart=>exact ⟨0,by omega,rfl,rfl,rfl⟩
 case round =>
  obtain⟨k,hk,rfl,rfl,rfl⟩:=hrel;by_cases hlt:k<s.size
  ·have hlen:k<s.data.toList.length:=by rw [Array.length_toList];exact hlt
   have hst:=natL_take s.data.toList k hlen;have hb:=ygA s.data.toList k;have hb2:natL (s.data.toList.take k)<72057594037927936:=Nat.lt_of_lt_of_le hb (Nat.le_trans (Nat.pow_le_pow_right (by decide) (show k≤7 by omega)) (by decide))
   have Hst:=jX hst;clear hst hb;generalize natL (s.data.toList.take k)=t at *;have hby:(s.data.toList[k]'hlen).toNat≤255:=by have:=UInt8.toNat_lt (s.data.toList[k]'hlen);omega
   have hel:(s[k]).toNat=(s.data.toList[k]'hlen).toNat:=by
    rw [Array.getElem_toList];rfl
   have Hel:=jX hel;have Hby:=jX hby;clear hel hby;go_wp2_with fail;go_roundw
   case rel =>
    refine ⟨k+1,by omega,by go_num,?_,trivial⟩
    have h1:IntKind.u64.wrap ((s[k]).toNat:Int)=((s.data.toList[k]'hlen).toNat:Int):=by
     rw [Hel.out,IntKind.wrap_u64];have:=Hby.out;omega
    rw [h1,or_u64 t _ hb2 Hby.out,Hst.out];congr 1
    omega
   case measure=>simp [intOf];omega
  obtain rfl:k=s.size:=by omega
  have he:natL (s.data.toList.take s.size)=natB s:=by
   rw [show s.size=s.data.toList.length by rw [Array.length_toList];rfl,List.take_length];rfl
  have He:=jX he;clear he;go_wp2_with fail;rw [He.out];go_ret2
  exact ⟨rfl,rfl⟩
theorem word_e (s:ByteArray) (hs:¬ s.size≤8) (hm:s.size≤maxLen) (w:World) :
  Calls prog 215 #[.string s] w fun e w'=>e = .returned (.tuple #[.int .u64 0,.bool false])∧w'=w:=by
 have h8:8<s.size:=by omega
 unfold maxLen at hm;go_enter func215,ntmps215
 go_wp2_with fail;go_ret2
 exact ⟨rfl,rfl⟩
theorem ydq (s t:ByteArray) (hs:s.size≤8) (ht:t.size≤8) (w:World) :
  Calls prog 186 #[.string s,.string t] w fun e w'=>e = .returned (.tuple #[.int .u64 (natB s),.int .u64 (natB t),.bool true])∧w'=w:=by
 have H1:=jX (ygd s hs w);have H2:=jX (ygd t ht w);clear hs ht;go_enter func186,ntmps186
 go_wp2_with fail;refine H1.out.mono ?_;rintro e w' ⟨rfl,rfl⟩;dsimp only;go_wp2_with fail;refine H2.out.mono ?_;rintro e w' ⟨rfl,rfl⟩;dsimp only;go_wp2_with fail;go_ret3
 exact ⟨rfl,rfl⟩
theorem ydl (s t:ByteArray) (h:¬ (s.size≤8∧t.size≤8)) (hs:s.size≤maxLen) (ht:t.size≤maxLen) (w:World) :
  Calls prog 186 #[.string s,.string t] w fun e w'=>(∃ x y,e = .returned (.tuple #[.int .u64 x,.int .u64 y,.bool false]))∧w'=w:=by
 by_cases h1:s.size≤8
 ·have h2:¬ t.size≤8:=fun h2=>h ⟨h1,h2⟩
  have H1:=jX (ygd s h1 w);have H2:=jX (word_e t h2 ht w);clear h h1 h2 hs ht;go_enter func186,ntmps186
  go_wp2_with fail;refine H1.out.mono ?_;rintro e w' ⟨rfl,rfl⟩;dsimp only;go_wp2_with fail;refine H2.out.mono ?_;rintro e w' ⟨rfl,rfl⟩;dsimp only;go_wp2_with fail;go_ret3
  exact ⟨⟨_,_,rfl⟩,rfl⟩
 have H1:=jX (word_e s h1 hs w);by_cases h2:t.size≤8
 ·have H2:=jX (ygd t h2 w)
  clear h h1 h2 hs ht;go_enter func186,ntmps186
  go_wp2_with fail;refine H1.out.mono ?_;rintro e w' ⟨rfl,rfl⟩;dsimp only;go_wp2_with fail;refine H2.out.mono ?_;rintro e w' ⟨rfl,rfl⟩;dsimp only;go_wp2_with fail;go_ret3
  exact ⟨⟨_,_,rfl⟩,rfl⟩
 have H2:=jX (word_e t h2 ht w);clear h h1 h2 hs ht;go_enter func186,ntmps186
 go_wp2_with fail;refine H1.out.mono ?_;rintro e w' ⟨rfl,rfl⟩;dsimp only;go_wp2_with fail;refine H2.out.mono ?_;rintro e w' ⟨rfl,rfl⟩;dsimp only;go_wp2_with fail;go_ret3
 exact ⟨⟨_,_,rfl⟩,rfl⟩
theorem magL_range:∀ (n u:Nat),(magL u).length=n→magL u=(List.range n).map fun j=>UInt8.ofNat (u / 256 ^ (n-1-j) % 256)
 | 0,u,h=>by rw [List.length_eq_zero_iff.1 h];rfl
 | n+1,u,h=>by
  rcases Nat.eq_zero_or_pos u with rfl|hu
  ·rw [magL_zero] at h;simp at h
  rw [yeu hu] at h ⊢;have hl:(magL (u / 256)).length=n:=by simpa using h
  rw [magL_range n (u / 256) hl,List.range_succ,List.map_append];congr 1
  ·apply List.map_congr_left
   intro j hj;rw [List.mem_range] at hj;rw [show n+1-1-j=(n-1-j)+1 by omega,Nat.pow_succ,Nat.mul_comm,Nat.div_div_eq_div_mul]
  simp
theorem magL_bits (u:Nat) (hu:0<u) (h:u<2 ^ 64):(magL u).length=(Lib.bitLen u+7) / 8:=by
 obtain⟨h1,h2,h3⟩:=Lib.bitLenAux_bounds 64 u h (by omega);have hb:Lib.bitLen u=Lib.bitLenAux 64 u:=rfl;rw [← hb] at h1 h2 h3;generalize Lib.bitLen u=b at *;have e:∀ k,256 ^ k=2 ^ (8*k):=fun k=>by rw [Nat.pow_mul]
 have u1:(magL u).length≤(b+7) / 8:=by
  rw [ycy,e];exact Nat.lt_of_lt_of_le h3 (Nat.pow_le_pow_right (by decide) (by omega))
 have u2:¬ (magL u).length≤(b+7) / 8-1:=by
  rw [ycy,e];have:2 ^ (8*((b+7) / 8-1))≤2 ^ (b-1):=Nat.pow_le_pow_right (by decide) (by omega);omega
 omega
def mnum (u n i:Nat):List Int:=(List.range 8).map fun j=>if n≤j+i∧j<n then ((u / 256 ^ (n-1-j) % 256:Nat):Int) else 0
def mrow (u n i:Nat):Array Value:=((mnum u n i).map (Value.int .u8)).toArray
theorem mnum_zero (u n:Nat):mnum u n 0=List.replicate 8 0:=by
 unfold mnum;have:∀ j,(if n≤j+0∧j<n then ((u / 256 ^ (n-1-j) % 256:Nat):Int) else 0)=0:=fun j=>if_neg (by omega)
 simp only [this];rfl
theorem mrow_set (u n i:Nat) (hn:n≤8) (hi:i<n):(mrow u n i).setIfInBounds (n-1-i) (.int .u8 ((u / 256 ^ i % 256:Nat):Int))=mrow u n (i+1):=by
 unfold mrow;rw [List.setIfInBounds_toArray,← List.map_set];congr 2
 unfold mnum;apply List.ext_getElem
 ·simp
 intro j h1 h2;have hj:j<8:=by simpa using h2
 rw [List.getElem_set];simp only [List.getElem_map,List.getElem_range];by_cases h:n-1-i=j
 ·subst h
  rw [if_pos rfl,if_pos (by omega)];congr 4
  omega
 rw [if_neg h];by_cases h3:n≤j+i∧j<n
 ·rw [if_pos h3,if_pos (by omega)]
 rw [if_neg h3,if_neg (by omega)]
theorem mrow_get (u n i:Nat) (hn:n≤8) (hi:i<n):(mrow u n i)[n-1-i]? = some (.int .u8 0):=by
 unfold mrow mnum;rw [List.getElem?_toArray,List.getElem?_map,List.getElem?_map,List.getElem?_range (by omega)];simp only [Option.map_some];rw [if_neg (by omega)]
theorem mnum_str (u n:Nat) (hn:n≤8) (h:(magL u).length=n):strOfNums ((mnum u n n).take n)=magS u:=by
 unfold magS strOfNums;congr 2
 rw [magL_range n u h];unfold mnum;apply List.ext_getElem
 ·simp;omega
 intro j h1 h2;have hj:j<n:=by simpa using h2
 simp only [List.getElem_map,List.getElem_take,List.getElem_range];rw [if_pos ⟨by omega,hj⟩,Int.toNat_natCast]
theorem mrow_cell (u n i:Nat) (w:World) (T:TypeId):∀ j,j<8→(w.alloc (.cells (mrow u n i) T)).cell? ⟨w.heap.size,0+j,none⟩=some (.int .u8 ((mnum u n i).getD j 0)):=by
 intro j hj;rw [Nat.zero_add,World.cell?_alloc_at _ _ _ _ rfl];unfold mrow;rw [List.getElem?_toArray,List.getElem?_map,List.getD_eq_getElem?_getD];have:j<(mnum u n i).length:=by unfold mnum;simpa using hj
 rw [List.getElem?_eq_getElem this];rfl
theorem len8:prog.arrayLen 210=8:=by kernel_rfl
theorem elem8:prog.elem 210=5:=by kernel_rfl
theorem slice8 (w:World) (b:Nat) (k:Nat) (hk:k≤8):(Instr.sliceAt 210 (.pointer (some ⟨b,0,none⟩)) none (some (.int .i64 (k:Int))) none).run prog w = .ok (.slice (some ⟨b,0,none⟩) k 8) w:=by
 rw [run_sliceAt_array_h (P:=prog) w 210 ⟨b,0,none⟩ (by kernel_rfl) .i64 k (by omega) (by rw [len8];omega),elem8,sizeOf5,len8];simp [slicedAt];rfl
theorem ybf (u:Nat) (hu:u<18446744073709551616) (w:World) :
  Calls prog 160 #[.int .u64 u] w fun e w'=>e = .returned (.string (magS u))∧Keep [] w w':=by
 by_cases h0:u=0
 ·subst h0
  go_enter func160,ntmps160
  go_wp2_with fail;go_ret
  exact ⟨by rw [magS_zero];rfl,Keep.refl _ _⟩
 have hne:((u:Int) == 0)=false:=by rw [beq_eq_false_iff_ne];omega
 have HB:=jX (fun w=>Tryz.bits_Len64 (u:Int) w (by omega) (by omega));rw [Int.toNat_natCast] at HB;obtain⟨n,hn⟩:∃ n,(magL u).length=n:=⟨_,rfl⟩;have hbl:=magL_bits u (by omega) hu;have hbn:Lib.bitLen u≤64:=Lib.bitLen_le u 64 (by omega) (by omega);rw [hn] at hbl;have hn8:n≤8:=by omega
 have hqn:((Lib.bitLen u:Int)+7) / 8=(n:Int):=by omega
 have hnb:0≤(Lib.bitLen u:Int):=Int.natCast_nonneg _;have Hn:=jX hn;have Hu:=jX hu;generalize (Lib.bitLen u:Int)=bl at *;clear hn hbl h0;go_enter func160,ntmps160
 go_wp2_with fail;refine (HB.out w).mono ?_;rintro e w1 ⟨rfl,rfl⟩;dsimp only;go_wp2_with fail;have hrow:(#[.int .u8 0,.int .u8 0,.int .u8 0,.int .u8 0,.int .u8 0,.int .u8 0,.int .u8 0,.int .u8 0]:Array Value)=mrow u n 0:=by unfold mrow;rw [mnum_zero];rfl
 rw [hrow,hqn];clear hrow hqn HB hnb hbn hne;go_loopw [13] (fun i wr=>∃ k:Nat,k≤n∧i = .int .i64 k∧wr=w1.alloc (.cells (mrow u n k) 210)) (fun i _=>8-(intOf i).toNat)
 case atStart=>exact ⟨0,by omega,rfl,rfl⟩
 case round =>
  obtain⟨k,hk,rfl,rfl⟩:=hrel;by_cases hlt:k<n
  ·have Hs:=jX (mrow_set u n k hn8 hlt)
   have hg:=mrow_get u n k hn8 hlt;go_wp2_with fail;go_roundw
   case rel =>
    refine ⟨k+1,by omega,by go_num,?_⟩
    have e:((u:Int) / 2 ^ (8*k) % 256)=((u / 256 ^ k % 256:Nat):Int):=by
     rw [show (256:Nat) ^ k=2 ^ (8*k) by rw [Nat.pow_mul]]
     norm_cast
    rw [e,Hs.out]
   case measure=>simp [intOf];omega
  obtain rfl:k=n:=by omega
  have Hconv:=jX (run_convert_bytes_arg (P:=prog) (w1.alloc (.cells (mrow u k k) 210)) 211 5 underlying211 underlying5 w1.heap.size 0 k 8 ((mnum u k k).take k) (by unfold mnum;simp;omega) (fun i hi=>by
   rw [mrow_cell u k k w1 _ i (by omega),List.getD_eq_getElem?_getD,List.getD_eq_getElem?_getD,List.getElem?_take_of_lt hi]) 9 underlying9)
  have hsl:=slice8 (w1.alloc (.cells (mrow u k k) 210)) w1.heap.size k hn8;have hconv:=Hconv.out;go_wp2_with fail;go_ret
  refine ⟨?_,Keep.alloc _ _ _⟩;rw [mnum_str u k hn8 Hn.out];rfl
def dl (B L n:Nat):List Nat:=(List.range L).map fun j=>n / B ^ j % B
theorem ybJ (B L n:Nat):(dl B L n).length=L:=by simp [dl]
theorem yfy (B L n j:Nat) (h:j<(dl B L n).length):(dl B L n)[j]=n / B ^ j % B:=by simp [dl]
theorem dl_succ (B L n:Nat):dl B (L+1) n=n % B :: dl B L (n / B):=by
 unfold dl;rw [List.range_succ_eq_map,List.map_cons,List.map_map];congr 1
 ·simp
 apply List.map_congr_left;intro j _;simp only [Function.comp];rw [Nat.pow_succ,Nat.mul_comm,Nat.div_div_eq_div_mul]
theorem val_dl {B:Nat} (hB:0<B):∀ (L n:Nat),n<B ^ L→val B (dl B L n)=n
 | 0,n,h=>by
  have:n=0:=by simpa using h
  subst this;rfl
 | L+1,n,h=>by
  rw [dl_succ,val,val_dl hB L (n / B) (by rw [Nat.div_lt_iff_lt_mul hB,← Nat.pow_succ];exact h)];exact Nat.mod_add_div n B
theorem dl_lt {B:Nat} (hB:0<B) (L n:Nat):∀ d∈dl B L n,d<B:=by
 intro d hd;unfold dl at hd;obtain⟨j,_,rfl⟩:=List.mem_map.1 hd;exact Nat.mod_lt _ hB
theorem ydY (B L:Nat):dl B L 0=List.replicate L 0:=by
 unfold dl;apply List.ext_getElem
 ·simp
 intro j h1 h2;simp
theorem dl_byte (L k N b:Nat) (hN:N<256 ^ k) (hb:b<256) (hk:k / 4<L) :
  (dl 4294967296 L N).set (k / 4) (N / 4294967296 ^ (k / 4) % 4294967296+b*2 ^ (8*(k % 4)))=dl 4294967296 L (b*256 ^ k+N) ∧
   N / 4294967296 ^ (k / 4) % 4294967296<2 ^ (8*(k % 4)):=by
 have hB:∀ j,4294967296 ^ j=2 ^ (32*j):=fun j=>by rw [Nat.pow_mul]
 have hK:256 ^ k=2 ^ (32*(k / 4))*2 ^ (8*(k % 4)):=by
  rw [show (256:Nat)=2 ^ 8 from rfl,← Nat.pow_mul,← Nat.pow_add]
  congr 1;omega
 have hs:2 ^ (8*(k % 4))≤16777216:=by
  have:2 ^ (8*(k % 4))≤2 ^ 24:=Nat.pow_le_pow_right (by decide) (by omega);exact this
 have hq:N / 2 ^ (32*(k / 4))<2 ^ (8*(k % 4)):=by
  rw [Nat.div_lt_iff_lt_mul (Nat.pow_pos (by decide)),Nat.mul_comm,← hK];exact hN
 have hm:N / 4294967296 ^ (k / 4) % 4294967296=N / 2 ^ (32*(k / 4)):=by
  rw [hB,Nat.mod_eq_of_lt (by omega)]
 refine ⟨?_,by rw [hm];exact hq⟩;apply List.ext_getElem
 ·simp [ybJ]
 intro j h1 h2;have hj:j<L:=by simpa [ybJ] using h2
 rw [List.getElem_set,yfy];by_cases h:k / 4=j
 ·subst h
  rw [if_pos rfl,yfy,hm,hB];have e:b*256 ^ k=2 ^ (32*(k / 4))*(b*2 ^ (8*(k % 4))):=by rw [hK];simp only [Nat.mul_comm,Nat.mul_assoc,Nat.mul_left_comm]
  rw [e,Nat.mul_add_div (Nat.pow_pos (by decide))];have:b*2 ^ (8*(k % 4))≤255*2 ^ (8*(k % 4)):=Nat.mul_le_mul_right _ (by omega);rw [Nat.mod_eq_of_lt (a:=b*2 ^ (8*(k % 4))+N / 2 ^ (32*(k / 4))) (by omega)];omega
 rw [if_neg h,yfy,hB];rcases Nat.lt_or_ge j (k / 4) with h3|h3
 ·have e : b * 256 ^ k = 2 ^ (32 * j) * (4294967296 * (2 ^ (32 * (k / 4 - j - 1)) * (2 ^ (8 * (k % 4)) * b))) := by
   rw [hK,show 32*(k / 4)=32*j+(32+32*(k / 4-j-1)) by omega,Nat.pow_add,Nat.pow_add,show (2:Nat) ^ 32=4294967296 from rfl]
   generalize 2 ^ (32*j)=x;generalize 2 ^ (32*(k / 4-j-1))=y;generalize 2 ^ (8*(k % 4))=z;rw [Nat.mul_comm b];simp only [Nat.mul_assoc]
  rw [e,Nat.mul_add_div (Nat.pow_pos (by decide)),Nat.mul_add_mod]
 have hlt:256 ^ (k+1)≤2 ^ (32*j):=by
  rw [show (256:Nat)=2 ^ 8 from rfl,← Nat.pow_mul]
  exact Nat.pow_le_pow_right (by decide) (by omega)
 have hp:=Nat.pow_succ (n:=256) (m:=k);have h4:b*256 ^ k≤255*256 ^ k:=Nat.mul_le_mul_right _ (by omega);rw [Nat.div_eq_of_lt (by omega),Nat.div_eq_of_lt (by omega)]
theorem or_u32 (x b s:Nat) (hs:s<4) (hx:x<2 ^ (8*s)) (hb:b<256):bits BinOp.or IntKind.u32 (x:Int) ((b*2 ^ (8*s):Nat):Int)=((x+b*2 ^ (8*s):Nat):Int):=by
 have hp:2 ^ (8*s)≤16777216:=by
  have:2 ^ (8*s)≤2 ^ 24:=Nat.pow_le_pow_right (by decide) (by omega);exact this
 have hbs:b*2 ^ (8*s)≤255*2 ^ (8*s):=Nat.mul_le_mul_right _ (by omega)
 have h1:(BitVec.ofInt 32 (x:Int)).toNat=x:=by
  rw [BitVec.ofInt_natCast,BitVec.toNat_ofNat];exact Nat.mod_eq_of_lt (by omega)
 have h2:(BitVec.ofInt 32 ((b*2 ^ (8*s):Nat):Int)).toNat=b*2 ^ (8*s):=by
  rw [BitVec.ofInt_natCast,BitVec.toNat_ofNat];exact Nat.mod_eq_of_lt (by omega)
 show IntKind.u32.wrap ((BitVec.ofInt 32 (x:Int) ||| BitVec.ofInt 32 ((b*2 ^ (8*s):Nat):Int)).toNat:Int)=_
 have e:x ||| b*2 ^ (8*s)=x+b*2 ^ (8*s):=by
  rw [Nat.or_comm,← Nat.shiftLeft_eq,← Nat.shiftLeft_add_eq_or_of_lt hx,Nat.add_comm]
 rw [BitVec.toNat_or,h1,h2,e,IntKind.wrap_u32];omega
def u32s (l:List Nat):List Value:=l.map fun (d:Nat)=>.int .u32 (d:Int)
theorem natL_drop (l:List UInt8) (k:Nat) (h:k<l.length):natL (l.drop (l.length-(k+1)))=(l[l.length-1-k]).toNat * 256 ^ k+natL (l.drop (l.length-k)):=by
 have e:=List.drop_eq_getElem_cons (l:=l) (i:=l.length-(k+1)) (by omega);rw [e,ybE,List.length_drop,show l.length-(l.length-(k+1)+1)=k by omega]
 simp only [show l.length-(k+1)=l.length-1-k by omega,show l.length-1-k+1=l.length-k by omega]
theorem ygw (l:List UInt8) (k:Nat) (h:k≤l.length):natL (l.drop (l.length-k))<256 ^ k:=by
 have:=ycK (l.drop (l.length-k));rwa [List.length_drop,show l.length-(l.length-k)=k by omega] at this
theorem yhH (l:List Nat):(u32s l).length=l.length:=by simp [u32s]
theorem yiJ (l:List Nat) (i:Nat) (h:i<l.length):(u32s l)[i]? = some (.int .u32 ((l[i]:Nat):Int)):=by simp [u32s,h]
theorem u32s_set (l:List Nat) (i d:Nat):(u32s l).set i (.int .u32 (d:Int))=u32s (l.set i d):=by simp [u32s,List.map_set]
theorem yjj (s:ByteArray) (k:Nat) (h:k<s.size):natL (s.data.toList.drop (s.size-(k+1)))=(s[s.size-1-k]'(by omega)).toNat * 256 ^ k+natL (s.data.toList.drop (s.size-k)):=by
 have:=natL_drop s.data.toList k (by rw [Array.length_toList];exact h);simp only [Array.length_toList] at this;exact this
theorem bytes_lt (s:ByteArray) (k:Nat) (h:k≤s.size):natL (s.data.toList.drop (s.size-k))<256 ^ k:=by
 have:=ygw s.data.toList k (by rw [Array.length_toList];exact h);simp only [Array.length_toList] at this;exact this
theorem index_low (w:World) (s:ByteArray) (k:Nat) (h:k<s.size):(Instr.index 9 (.string s) (.int .i64 ((s.size:Int)-1-(k:Int)))).run prog w = .ok (.int .u8 (((s[s.size-1-k]'(by omega)).toNat:Nat):Int)) w:=by
 rw [run_index_string (P:=prog) w 9 s .i64 _ underlying9,dif_pos ⟨by omega,by omega⟩];have e:((s.size:Int)-1-(k:Int)).toNat=s.size-1-k:=by omega
 simp only [e]
theorem infoU32:(prog.info? 230).map (fun i=>(i.zero,i.size,i.bytes))=some (some (.int .u32 0),1,4):=by kernel_rfl
theorem ycz {P:Program} {t:TypeId} {z:Option Value} {s b:Nat} (h:(P.info? t).map (fun i=>(i.zero,i.size,i.bytes))=some (z,s,b)):∃ i,P.info? t=some i∧i.zero=z∧i.size=s∧i.bytes=b:=by
 cases hi:P.info? t with
 | none=>rw [hi] at h;cases h
 | some i =>
  rw [hi] at h;injection h with h;injection h with h1 h2;injection h2 with h2 h3;exact ⟨i,rfl,h1,h2,h3⟩
theorem made_u32 (n:Nat):madeCells (Value.int .u32 0).cells n=(u32s (List.replicate n 0)).toArray:=by
 unfold madeCells;apply Array.ext
 ·simp [u32s]
 intro i h1 h2;simp [u32s,Value.cells,Nat.mod_one]
theorem ybq (w:World) (n:Nat) (hn:n≤10000000000000):(Instr.makeSlice 236 (.int .i64 (n:Int)) (.int .i64 (n:Int))).run prog w = .ok (.slice (some ⟨w.heap.size,0,none⟩) n n) (w.alloc (.cells (u32s (List.replicate n 0)).toArray 230)):=by
 obtain⟨i0,hi,hz0,hz1,hz2⟩:=ycz infoU32;have hm:=run_make (P:=prog) w 236 230 i0 _ underlying236 hi hz0 .i64 .i64 (n:Int) (n:Int) (by omega) (by omega) (by rw [hz2];omega) (by omega);rw [Int.toNat_natCast,hz1,Nat.mul_one,made_u32] at hm;exact hm
theorem digits_c (s:ByteArray) (hs:s.size≤1000000000000) (w:World) :
  Calls prog 216 #[.string s] w fun e w'=>e = .returned (.slice (some ⟨w.heap.size,0,none⟩) ((s.size+3) / 4) ((s.size+3) / 4)) ∧
   Keep [] w w'∧w'.heap[w.heap.size]? = some (.cells (u32s (dl 4294967296 ((s.size+3) / 4) (natB s))).toArray 230 (0,0)):=by
 obtain⟨L,hL⟩:∃ L,(s.size+3) / 4=L:=⟨_,rfl⟩;have HL:=jX hL;rw [hL];have hq:((s.size:Int)+3) / 4=(L:Int):=by omega
 have hLb:L≤500000000000:=by omega
 clear hL;have hmk:=ybq w L (by omega);go_enter func216,ntmps216
 go_wp2_with fail;rw [hq];clear hq;go_loopw [13] (fun i wr=>∃ k:Nat,k≤s.size∧i = .int .i64 k∧Keep [] w wr∧wr.heap[w.heap.size]? = some (.cells (u32s (dl 4294967296 L (natL (s.data.toList.drop (s.size-k))))).toArray 230 (0,0))) (fun i _=>s.size-(intOf i).toNat)
 case atStart =>
  refine ⟨0,by omega,rfl,Keep.alloc _ _ _,?_⟩;rw [Nat.sub_zero,show s.size=s.data.toList.length by rw [Array.length_toList];rfl,List.drop_length,natL_nil,ydY]
  exact World.alloc_heap_new w _
 case round =>
  obtain⟨k,hk,rfl,hkp,hbx⟩:=hrel;by_cases hlt:k<s.size
  ·have hN:=bytes_lt s k hk
   have hstep:=yjj s k hlt;have hby:(s[s.size-1-k]'(by omega)).toNat < 256:=UInt8.toNat_lt _;have hix:=fun w=>index_low w s k hlt;generalize (s[s.size-1-k]'(by omega)).toNat=b at hstep hby hix;have hkL:k / 4<L:=by have:=HL.out;omega
   obtain⟨hset,hdg⟩:=dl_byte L k (natL (s.data.toList.drop (s.size-k))) b hN hby hkL;have Hstep:=jX hstep;have Hset:=jX hset;generalize natL (s.data.toList.drop (s.size-k))=N at *;have hdl:k / 4<(dl 4294967296 L N).length:=by rw [ybJ];exact hkL
   have hcell:=yiJ (dl 4294967296 L N) (k / 4) hdl;rw [yfy] at hcell;generalize N / 4294967296 ^ (k / 4) % 4294967296=x at *;have hor:=or_u32 x b (k % 4) (Nat.mod_lt _ (by decide)) hdg hby
   have hcw:∀ n:KW wr,(Wk wr n).cell? ⟨w.heap.size,k / 4,none⟩=some (.int .u32 (x:Int)):=fun n=>by
    show n.x.cell? _=_
    rw [yab (n.k.heap hbx (by simp))]
    simpa using hcell
   have Hbx:=jX hbx;have Hkp:=jX hkp;have hlt9:=yaa hbx;clear hstep hset hN hbx hkp hmk hcell hdl;go_wp2_with fail;refine yah 15 (by kernel_rfl) (by kernel_rfl) ?_;simp only [List.take_succ_cons,List.take_zero,List.drop_succ_cons,List.drop_zero]
   repeat (first
    | go_big_quiet_skip
    | (go_big_quiet_want;go_big_quiet_op;go_big_quiet_on))
   refine wpQuiet_nil ?_;rintro w1 ⟨⟨_,hk1⟩,rfl⟩;have hb1:=hk1.heap Hbx.out (by simp);have hc1:=yab hb1;have hf1:=yai hb1;have hl1:=yaa hb1;have hcc:w1.cell? ⟨w.heap.size,k / 4,none⟩=some (.int .u32 (x:Int)):=hcw ⟨w1,hk1⟩;have Hb1:=jX hb1;have Hk1:=jX hk1
   have hmod:((b:Int)*2 ^ (8*(k % 4)) % 4294967296)=((b*2 ^ (8*(k % 4)):Nat):Int):=by
    have hp:2 ^ (8*(k % 4))≤16777216:=by
     have:2 ^ (8*(k % 4))≤2 ^ 24:=Nat.pow_le_pow_right (by decide) (by omega);exact this
    have hbs:b*2 ^ (8*(k % 4))≤255*2 ^ (8*(k % 4)):=Nat.mul_le_mul_right _ (by omega);have e:(b:Int)*2 ^ (8*(k % 4))=((b*2 ^ (8*(k % 4)):Nat):Int):=by push_cast;rfl
    rw [e];omega
   have Hmod:=jX hmod;have Hor:=jX hor;clear hb1 hk1 hcw hmod hor hix hc1 hdg;go_wp2_with fail;go_roundw
   case rel =>
    refine ⟨k+1,by omega,by go_num,(Hkp.out.tz Hk1.out).sP _ _ _ (Nat.le_refl _),?_⟩;rw [set_same Hb1.out,Hmod.out,Hor.out,List.setIfInBounds_toArray,u32s_set,Hset.out,Hstep.out]
   case measure=>simp [intOf];omega
  obtain rfl:k=s.size:=by omega
  have Hkp:=jX hkp;have Hbx:=jX hbx;clear hkp hbx hmk;go_wp2_with fail;go_ret
  refine ⟨rfl,Hkp.out,?_⟩;have:=Hbx.out;rw [Nat.sub_self,List.drop_zero] at this;exact this
end Go.Proofs.YtpgffjjpiafhpaaGreatDoor
