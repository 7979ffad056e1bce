/- Parts of a proof: Ns Nu Na. -/
import Derived.Lib.Bytealg
import Derived.Lib.Small
import Derived.Lib.Hide
import Derived.Laws.BitsLemmas
import Derived.Lib.ItoaNum
import Derived.Test.YtpgffjjpiafhpaaGreatDoorJ01
set_option linter.unusedVariables false
set_option linter.unusedSimpArgs false
set_option maxRecDepth 100000
set_option maxHeartbeats 8000000
namespace Go.Proofs.YtpgffjjpiafhpaaGreatDoor
open Go.RowKit Tryz
abbrev Tg {α:Type} (P:α→Prop):Type:=Unit
abbrev Fn {α:Type} (P:α→Prop) (b:Tg P) (t:α):Prop:=P t
theorem fO {α:Type} {P:α→Prop} {b:Tg P} {t:α} (h:P t):Fn P b t:=h
theorem fK {α:Type} {P:α→Prop} {b:Tg P} {t:α} (h:Fn P b t):∀ K:α→Prop,(∀ a,P a→K a)→K t:=fun K hK=>hK t h
section
variable {P:Program} {ops:Array Oper} {md:Region.Mode} {Q:Exit→Act→World→Prop} {w:World} {n f:Nat} {L:Array Bool→Act→World→Prop} {listed:Array Bool} {a:Act} {o:Oper} {v:Value} {S:World→Prop}
theorem sV (i:Nat) (hS:S w) (h2:Fn (fun a=>yav P md ops Q S n L f (listed.setIfInBounds i true) a w) () (a.put o.dst v))
  (ho:ops[i]? = some o:=by rfl) (h1:∀ w,S w→(execOp a.eval o).run P w = .ok (.value v) w:=by (intro w hw;go_simp;try rfl)) (hi:i<n:=by decide) (hf:Region.free md ops listed i=true:=by kernel_rfl) (hr:(Region.ready md ops listed).contains i=true:=by kernel_rfl) (hg:o.guard=none:=by rfl):yav P md ops Q S n L (f+1) listed a w :=
 yhh i ho hi hf hr hg hS h1 (fK h2)
theorem sG (i:Nat) (hS:S w) (h2:Fn (fun a=>yav P md ops Q S n L f (listed.setIfInBounds i true) a w) () (a.put o.dst v))
  (ho:ops[i]? = some o:=by rfl) (h1:∀ w,S w→(execOp a.eval o).run P w = .ok (.value v) w:=by (intro w hw;go_simp;try rfl)) (hi:i<n:=by decide) (hf:Region.free md ops listed i=true:=by kernel_rfl) (hr:(Region.ready md ops listed).contains i=true:=by kernel_rfl) (hg:Region.wanted o (yielded ops a.tmps)=true:=by rfl):yav P md ops Q S n L (f+1) listed a w :=
 yaF i ho hi hf hr hg hS h1 (fK h2)
end
def natL (l:List UInt8):Nat:=l.foldl (fun n b=>n*256+b.toNat) 0
theorem yjl (l:List UInt8):∀ n:Nat,l.foldl (fun n b=>n*256+b.toNat) n=n*256 ^ l.length+natL l:=by
 induction l with
 | nil=>intro n;simp [natL]
 | cons b l ih =>
  intro n;unfold natL;simp only [List.foldl_cons,List.length_cons];rw [ih,ih (0*256+b.toNat),Nat.pow_succ];rw [Nat.add_mul,Nat.zero_mul,Nat.zero_add,Nat.add_assoc,Nat.mul_assoc n 256,Nat.mul_comm 256]
theorem ydq (a b:List UInt8):natL (a++b)=natL a*256 ^ b.length+natL b:=by
 unfold natL;rw [List.foldl_append,yjl];rfl
theorem natL_nil:natL []=0:=rfl
theorem yiB (b:UInt8):natL [b]=b.toNat:=by simp [natL]
theorem ydP (a:List UInt8) (b:UInt8):natL (a++[b])=natL a*256+b.toNat:=by rw [ydq,yiB];simp
theorem ybC (b:UInt8) (l:List UInt8):natL (b :: l)=b.toNat * 256 ^ l.length+natL l:=by
 have:=ydq [b] l;rw [yiB] at this;exact this
theorem ycP (l:List UInt8):natL l<256 ^ l.length:=by
 induction l with
 | nil=>simp [natL]
 | cons b l ih =>
  rw [ybC,List.length_cons,Nat.pow_succ];have:=b.toNat_lt
  have h:b.toNat * 256 ^ l.length+256 ^ l.length≤256*256 ^ l.length:=by
   rw [← Nat.succ_mul];exact Nat.mul_le_mul_right _ (by omega)
  rw [Nat.mul_comm (256 ^ l.length)];omega
def CanL (l:List UInt8):Prop:=∀ b,l.head? = some b→b≠0
theorem yhR {b:UInt8} {l:List UInt8} (h:b≠0):256 ^ l.length≤natL (b :: l):=by
 rw [ybC]
 have:1≤b.toNat:=by
  rcases Nat.eq_zero_or_pos b.toNat with h0|h0
  ·exact absurd (UInt8.toNat_inj.1 (by simpa using h0)) h
  exact h0
 have:=Nat.mul_le_mul_right (256 ^ l.length) this;omega
def magL:Nat→List UInt8
 | 0=>[]
 | n+1=>magL ((n+1) / 256)++[UInt8.ofNat ((n+1) % 256)]
theorem magL_zero:magL 0=[]:=by unfold magL;rfl
theorem ydI {n:Nat} (h:0<n):magL n=magL (n / 256)++[UInt8.ofNat (n % 256)]:=by
 obtain⟨m,rfl⟩:∃ m,n=m+1:=⟨n-1,by omega⟩;rw [magL]
theorem ydx (n:Nat):natL (magL n)=n:=by
 induction n using Nat.strongRecOn with
 | _ n ih =>
  rcases Nat.eq_zero_or_pos n with rfl|h
  ·rw [magL_zero];rfl
  rw [ydI h,ydP,ih _ (by omega)];have:(UInt8.ofNat (n % 256)).toNat=n % 256:=by simp
  omega
theorem yiy (n:Nat):CanL (magL n):=by
 induction n using Nat.strongRecOn with
 | _ n ih =>
  rcases Nat.eq_zero_or_pos n with rfl|h
  ·rw [magL_zero];intro b hb;simp at hb
  rw [ydI h];intro b hb;by_cases h2:n / 256=0
  ·rw [h2,magL_zero,List.nil_append] at hb
   simp at hb;subst hb;intro e;have:(UInt8.ofNat (n % 256)).toNat=n % 256:=by simp
   rw [e] at this;simp at this;omega
  have hne:magL (n / 256)≠[]:=by
   intro e;have:=ydx (n / 256);rw [e] at this;exact h2 this.symm
  obtain⟨c,l,hl⟩:=List.exists_cons_of_ne_nil hne;have hi:=ih (n / 256) (by omega);rw [hl] at hb hi;simp at hb;subst hb;exact hi c rfl
theorem CanL.init {l:List UInt8} {b:UInt8} (h:CanL (l++[b])):CanL l:=by
 intro c hc;refine h c ?_;cases l with
 | nil=>simp at hc
 | cons a l=>simpa using hc
theorem yfU (l:List UInt8) (h:CanL l):magL (natL l)=l:=by
 obtain⟨r,rfl⟩:∃ r:List UInt8,l=r.reverse:=⟨l.reverse,by simp⟩;induction r with
 | nil=>exact magL_zero
 | cons b r ih =>
  rw [List.reverse_cons] at h ⊢;rw [ydP];have hb:=b.toNat_lt
  have hpos:0<natL r.reverse*256+b.toNat:=by
   rcases hr:r.reverse with _|⟨c,l⟩
   ·rw [hr] at h
    have:=h b rfl;have:b.toNat≠0:=fun e=>this (UInt8.toNat_inj.1 (by simpa using e));omega
   rw [hr] at h;have:=yhR (l:=l) (h c rfl);have:=Nat.pow_pos (n:=l.length) (show 0<256 by decide)
   omega
  rw [ydI hpos,show (natL r.reverse*256+b.toNat) / 256=natL r.reverse by omega,show (natL r.reverse*256+b.toNat) % 256=b.toNat by omega,ih h.init]
  congr 1
  simp
theorem ycF (n k:Nat):(magL n).length≤k↔n<256 ^ k:=by
 constructor
 ·intro h
  have:=ycP (magL n);rw [ydx] at this;exact Nat.lt_of_lt_of_le this (Nat.pow_le_pow_right (by decide) h)
 intro h;rcases Nat.lt_or_ge k (magL n).length with h1|h1
 ·exfalso
  rcases hl:magL n with _|⟨c,l⟩
  ·rw [hl] at h1;simp at h1
  have hc:=yiy n;rw [hl] at hc h1;have:=yhR (l:=l) (hc c rfl);rw [← hl,ydx] at this;have:256 ^ k≤256 ^ l.length:=Nat.pow_le_pow_right (by decide) (by simp at h1;omega);omega
 exact h1
def natB (s:ByteArray):Nat:=natL s.data.toList
def magS (n:Nat):ByteArray:=⟨(magL n).toArray⟩
theorem yhg (n:Nat):(magS n).data.toList=magL n:=rfl
theorem yax (n:Nat):natB (magS n)=n:=ydx n
theorem yaW (n k:Nat):(magS n).size≤k↔n<256 ^ k:=by
 rw [← ycF];rfl
theorem ygq {m n:Nat}:magS m=magS n↔m=n:=⟨fun h=>by rw [← yax m,h,yax],fun h=>by rw [h]⟩
theorem magS_zero:magS 0=⟨#[]⟩:=by unfold magS;rw [magL_zero]
theorem ybp {n:Nat}:magS n=⟨#[]⟩↔n=0:=by rw [← magS_zero,ygq]
def CanS (s:ByteArray):Prop:=CanL s.data.toList
theorem ycp (n:Nat):CanS (magS n):=yiy n
theorem yck (s:ByteArray) (h:CanS s):magS (natB s)=s:=by
 unfold magS natB;rw [yfU _ h]
theorem ybY (s:ByteArray):natB s<256 ^ s.size:=ycP _
theorem cmp_lists:∀ a b:List UInt8,a.length=b.length→Go.Lib.compareBytes a b=Go.Lib.compareInt (natL a) (natL b)
 | [],[],_=>by decide
 | x :: a,y :: b,h=>by
  simp only [List.length_cons,Nat.add_right_cancel_iff] at h;have ih:=cmp_lists a b h;have ha:=ycP a;have hb:=ycP b;rw [ybC,ybC,h];rw [h] at ha;unfold Go.Lib.compareBytes
  have key:∀ u v:Nat,u<v→u*256 ^ b.length+natL a<v*256 ^ b.length+natL b:=fun u v huv=>by
   have:(u+1)*256 ^ b.length≤v*256 ^ b.length:=Nat.mul_le_mul_right _ huv;rw [Nat.succ_mul] at this;omega
  have key2:∀ u v:Nat,u<v→u*256 ^ b.length+natL b<v*256 ^ b.length+natL a:=fun u v huv=>by
   have:(u+1)*256 ^ b.length≤v*256 ^ b.length:=Nat.mul_le_mul_right _ huv;rw [Nat.succ_mul] at this;omega
  unfold Go.Lib.compareInt;by_cases h1:x<y
  ·have:=key x.toNat y.toNat (UInt8.lt_iff_toNat_lt.1 h1)
   rw [if_pos h1,if_pos (by omega)]
  rw [if_neg h1];by_cases h2:y<x
  ·have:=key2 y.toNat x.toNat (UInt8.lt_iff_toNat_lt.1 h2)
   rw [if_pos h2,if_neg (by omega),if_pos (by omega)]
  have e:x=y:=by
   rw [UInt8.lt_iff_toNat_lt] at h1 h2;exact UInt8.toNat_inj.1 (by omega)
  subst e;rw [if_neg h2,ih];unfold Go.Lib.compareInt;generalize x.toNat * 256 ^ b.length=t;have e1:(((t+natL a:Nat):Int)<((t+natL b:Nat):Int))=((natL a:Int)<natL b):=by rw [eq_iff_iff];omega
  have e2:(((t+natL a:Nat):Int) > ((t+natL b:Nat):Int))=((natL a:Int) > natL b):=by rw [eq_iff_iff];omega
  simp only [e1,e2]
theorem cmp_mags (m n:Nat):(if (magL m).length<(magL n).length then (-1:Int) else if (magL n).length<(magL m).length then 1 else Go.Lib.compareBytes (magL m) (magL n))=Go.Lib.compareInt m n:=by
 have key:∀ a b:Nat,(magL a).length<(magL b).length→a<b:=fun a b h=>by
  rcases Nat.lt_or_ge a b with h1|h1
  ·exact h1
  exfalso
  have h2:b<256 ^ (magL a).length:=by
   have:=ycP (magL a);rw [ydx] at this;omega
  have:=(ycF b (magL a).length).2 h2;omega
 unfold Go.Lib.compareInt;by_cases h1:(magL m).length<(magL n).length
 ·have:=key m n h1
  rw [if_pos h1,if_pos (by omega)]
 rw [if_neg h1];by_cases h2:(magL n).length<(magL m).length
 ·have:=key n m h2
  rw [if_pos h2,if_neg (by omega),if_pos (by omega)]
 rw [if_neg h2,cmp_lists _ _ (by omega),ydx,ydx];rfl
def val (B:Nat):List Nat→Nat
 | []=>0
 | d :: l=>d+B*val B l
theorem yjm (B:Nat) (a b:List Nat):val B (a++b)=val B a+B ^ a.length*val B b:=by
 induction a with
 | nil=>simp [val]
 | cons d a ih =>
  rw [List.cons_append,val,val,ih,List.length_cons,Nat.pow_succ,Nat.mul_add,← Nat.mul_assoc,Nat.mul_comm B (B ^ a.length)];omega
theorem val_snoc (B:Nat) (a:List Nat) (d:Nat):val B (a++[d])=val B a+B ^ a.length*d:=by rw [yjm];simp [val]
theorem val_lt {B:Nat} (l:List Nat) (h:∀ d∈l,d<B):val B l<B ^ l.length:=by
 induction l with
 | nil=>simp [val]
 | cons d l ih =>
  have h1:=ih fun x hx=>h x (List.mem_cons_of_mem _ hx);have h2:=h d (by simp);rw [val,List.length_cons,Nat.pow_succ,Nat.mul_comm (B ^ l.length) B];have h3:B*(val B l+1)≤B*B ^ l.length:=Nat.mul_le_mul_left B h1;rw [Nat.mul_add,Nat.mul_one] at h3;omega
def digs (B:Nat) (n:Nat):List Nat:=if h:2≤B∧0<n then n % B :: digs B (n / B) else []
termination_by n
decreasing_by exact Nat.div_lt_self h.2 h.1
theorem yaS (B:Nat):digs B 0=[]:=by unfold digs;simp
theorem ybz {B n:Nat} (hB:2≤B) (h:0<n):digs B n=n % B :: digs B (n / B):=by rw [digs,dif_pos ⟨hB,h⟩]
theorem ycl {B:Nat} (hB:2≤B) (n:Nat):val B (digs B n)=n:=by
 induction n using Nat.strongRecOn with
 | _ n ih =>
  rcases Nat.eq_zero_or_pos n with rfl|h
  ·rw [yaS];rfl
  rw [ybz hB h,val,ih _ (Nat.div_lt_self h hB)];exact Nat.mod_add_div n B
theorem yfY {B:Nat} (hB:2≤B) (n:Nat):∀ d∈digs B n,d<B:=by
 induction n using Nat.strongRecOn with
 | _ n ih =>
  rcases Nat.eq_zero_or_pos n with rfl|h
  ·rw [yaS];simp
  rw [ybz hB h];intro d hd;rcases List.mem_cons.1 hd with rfl|hd
  ·exact Nat.mod_lt _ (by omega)
  exact ih _ (Nat.div_lt_self h hB) d hd
def Trim (l:List Nat):Prop:=∀ d,l.getLast? = some d→d≠0
theorem digs_trim {B:Nat} (hB:2≤B) (n:Nat):Trim (digs B n):=by
 induction n using Nat.strongRecOn with
 | _ n ih =>
  rcases Nat.eq_zero_or_pos n with rfl|h
  ·rw [yaS];intro d hd;simp at hd
  rw [ybz hB h];intro d hd;have hi:=ih _ (Nat.div_lt_self h hB);rcases hl:digs B (n / B) with _|⟨c,l⟩
  ·rw [hl] at hd
   simp at hd;subst hd
   have h0:n / B=0:=by
    have:=ycl hB (n / B);rw [hl] at this;exact this.symm
   have:=Nat.mod_add_div n B;rw [h0] at this;omega
  rw [hl] at hd hi;exact hi d (by simpa using hd)
theorem val_pos {B:Nat} (hB:2≤B) {l:List Nat} (h:Trim l) (hne:l≠[]):B ^ (l.length-1)≤val B l:=by
 obtain⟨a,d,rfl⟩:∃ a d,l=a++[d]:=⟨l.dropLast,l.getLast hne,(List.dropLast_concat_getLast hne).symm⟩;have hd:d≠0:=h d (by simp);rw [val_snoc,List.length_append,List.length_singleton,Nat.add_sub_cancel];have:B ^ a.length*1≤B ^ a.length*d:=Nat.mul_le_mul_left _ (by omega);omega
theorem yhY {B:Nat} (hB:2≤B):∀ (l:List Nat),(∀ d∈l,d<B)→Trim l→digs B (val B l)=l
 | [],_,_=>yaS B
 | d :: l,hd,ht=>by
  have h1:=hd d (by simp)
  have hpos:0<val B (d :: l):=by
   have:=val_pos hB ht (by simp);have:=Nat.pow_pos (n:=(d :: l).length-1) (show 0<B by omega)
   omega
  rw [ybz hB hpos];have e1:val B (d :: l) % B=d:=by rw [val,Nat.add_mul_mod_self_left,Nat.mod_eq_of_lt h1]
  have e2:val B (d :: l) / B=val B l:=by rw [val,Nat.add_mul_div_left _ _ (by omega),Nat.div_eq_of_lt h1,Nat.zero_add]
  rw [e1,e2,yhY hB l (fun x hx=>hd x (List.mem_cons_of_mem _ hx)) ?_];intro x hx;refine ht x ?_;cases l with
  | nil=>simp at hx
  | cons c l=>simpa using hx
theorem yhG {B:Nat} (hB:2≤B) (n k:Nat):(digs B n).length≤k↔n<B ^ k:=by
 constructor
 ·intro h
  have:=val_lt (digs B n) (yfY hB n);rw [ycl hB] at this;exact Nat.lt_of_lt_of_le this (Nat.pow_le_pow_right (by omega) h)
 intro h;rcases Nat.lt_or_ge k (digs B n).length with h1|h1
 ·exfalso
  have hne:digs B n≠[]:=by intro e;rw [e] at h1;simp at h1
  have h2:=val_pos hB (digs_trim hB n) hne;rw [ycl hB] at h2;have:B ^ k≤B ^ ((digs B n).length-1):=Nat.pow_le_pow_right (by omega) (by omega);omega
 exact h1
def trimD (l:List Nat):List Nat:=(l.reverse.dropWhile (· == 0)).reverse
theorem ybB (l:List Nat):trimD (l++[0])=trimD l:=by unfold trimD;simp
theorem ydi {l:List Nat} {d:Nat} (h:d≠0):trimD (l++[d])=l++[d]:=by unfold trimD;simp [List.dropWhile_cons,h]
theorem trimD_nil:trimD []=[]:=rfl
theorem ygy (B:Nat) (l:List Nat):val B (trimD l)=val B l:=by
 obtain⟨r,rfl⟩:∃ r:List Nat,l=r.reverse:=⟨l.reverse,by simp⟩;induction r with
 | nil=>rfl
 | cons d r ih =>
  rw [List.reverse_cons];by_cases h:d=0
  ·subst h;rw [ybB,ih,val_snoc];simp
  rw [ydi h]
theorem yiY (l:List Nat):Trim (trimD l):=by
 obtain⟨r,rfl⟩:∃ r:List Nat,l=r.reverse:=⟨l.reverse,by simp⟩;induction r with
 | nil=>intro d hd;simp [trimD] at hd
 | cons d r ih =>
  rw [List.reverse_cons];by_cases h:d=0
  ·subst h;rw [ybB];exact ih
  rw [ydi h];intro x hx;simp at hx;subst hx;exact h
theorem yhd {l:List Nat} {d:Nat} (h:d∈trimD l):d∈l:=by
 unfold trimD at h;rw [List.mem_reverse] at h;exact List.mem_reverse.1 ((List.dropWhile_sublist _).subset h)
theorem yja {B:Nat} (hB:2≤B) (l:List Nat) (h:∀ d∈l,d<B):trimD l=digs B (val B l):=by
 rw [← ygy,yhY hB (trimD l) (fun d hd=>h d (yhd hd)) (yiY l)]
theorem yfs (l:List Nat):∃ k,k≤l.length∧trimD l=l.take k:=by
 obtain⟨r,rfl⟩:∃ r:List Nat,l=r.reverse:=⟨l.reverse,by simp⟩;induction r with
 | nil=>exact ⟨0,by simp,rfl⟩
 | cons d r ih =>
  rw [List.reverse_cons];by_cases h:d=0
  ·subst h
   obtain⟨k,h1,h2⟩:=ih;refine ⟨k,by simp at h1 ⊢;omega,?_⟩;rw [ybB,h2,List.take_append_of_le_length h1]
  exact ⟨(r.reverse++[d]).length,Nat.le_refl _,by rw [ydi h,List.take_length]⟩
section
variable {B V P Yl T Xl g:Nat}
theorem kn_up (hP:0<P) (hX:Xl<P) (h:T<g*V):(T*P+Xl) / (V*P+Yl)<g:=by
 rcases Nat.eq_zero_or_pos (V*P+Yl) with h0|h0
 ·rw [h0,Nat.div_zero]
  rcases Nat.eq_zero_or_pos g with h1|h1
  ·rw [h1,Nat.zero_mul] at h;omega
  exact h1
 rw [Nat.div_lt_iff_lt_mul h0];have h1:(T+1)*P≤g*V*P:=Nat.mul_le_mul_right P h;rw [Nat.succ_mul] at h1;have h2:g*(V*P+Yl)=g*V*P+g*Yl:=by rw [Nat.mul_add,Nat.mul_assoc]
 omega
theorem kn_near (hY:Yl<P) (hg:g≤V+1) (h:g*V≤T) (hV:0<V):g≤(T*P+Xl) / (V*P+Yl)+1:=by
 rcases Nat.eq_zero_or_pos g with h1|h1
 ·rw [h1];exact Nat.zero_le _
 obtain⟨k,rfl⟩:∃ k,g=k+1:=⟨g-1,by omega⟩;have hP:0<P:=by omega
 have h0:0<V*P+Yl:=by have:=Nat.mul_pos hV hP;omega
 suffices hs:k≤(T*P+Xl) / (V*P+Yl) from Nat.succ_le_succ hs
 rw [Nat.le_div_iff_mul_le h0];have h2:(k+1)*V*P≤T*P:=Nat.mul_le_mul_right P h;have h3:(k+1)*V*P=k*(V*P)+V*P:=by rw [Nat.succ_mul,Nat.add_mul,Nat.mul_assoc]
 have h4:k*Yl≤V*P:=Nat.mul_le_mul (by omega) (by omega);rw [Nat.mul_add];omega
end
theorem or_u64 (t b:Nat) (ht:t<72057594037927936) (hb:b≤255):bits BinOp.or IntKind.u64 ((t:Int)*256) (b:Int)=((b+256*t:Nat):Int):=by
 rw [bits_join .u64 64 (by decide) (fun n h0 h1=>by rw [IntKind.wrap_u64];omega) 8 _ _ (by omega) (by omega) (by omega) (by omega) (by omega) (by omega)];omega
theorem natL_take (l:List UInt8) (i:Nat) (h:i<l.length):natL (l.take (i+1))=natL (l.take i)*256+l[i].toNat:=by
 rw [List.take_add_one,List.getElem?_eq_getElem h,Option.toList_some,ydP]
theorem ygA (l:List UInt8) (i:Nat):natL (l.take i)<256 ^ i:=by
 have h:=ycP (l.take i);exact Nat.lt_of_lt_of_le h (Nat.pow_le_pow_right (by decide) (by rw [List.length_take];omega))
theorem yfL (s:ByteArray) (hs:s.size≤8) (w:World) :
  Calls prog 215 #[.string s] w fun e w'=>e = .returned (.tuple #[.int .u64 (natB s),.bool true])∧w'=w:=by
 go_enter func215,ntmps215
 go_wp2_with fail;go_loopw [4,11] (fun u i wr=>∃ k:Nat,k≤s.size∧i = .int .i64 k∧u = .int .u64 (natL (s.data.toList.take k))∧wr=w) (fun _ i _=>s.size-(intOf i).toNat)
 case atStart=>exact ⟨0,by omega,rfl,rfl,rfl⟩
 case round =>
  obtain⟨k,hk,rfl,rfl,rfl⟩:=hrel;by_cases hlt:k<s.size
  ·have hlen:k<s.data.toList.length:=by rw [Array.length_toList];exact hlt
   have hst:=natL_take s.data.toList k hlen;have hb:=ygA s.data.toList k;have hb2:natL (s.data.toList.take k)<72057594037927936:=Nat.lt_of_lt_of_le hb (Nat.le_trans (Nat.pow_le_pow_right (by decide) (show k≤7 by omega)) (by decide))
   have Hst:=jX hst;clear hst hb;generalize natL (s.data.toList.take k)=t at *;have hby:(s.data.toList[k]'hlen).toNat≤255:=by have:=UInt8.toNat_lt (s.data.toList[k]'hlen);omega
   have hel:(s[k]).toNat=(s.data.toList[k]'hlen).toNat:=by
    rw [Array.getElem_toList];rfl
   have Hel:=jX hel;have Hby:=jX hby;clear hel hby;go_wp2_with fail;go_roundw
   case rel =>
    refine ⟨k+1,by omega,by go_num,?_,trivial⟩
    have h1:IntKind.u64.wrap ((s[k]).toNat:Int)=((s.data.toList[k]'hlen).toNat:Int):=by
     rw [Hel.out,IntKind.wrap_u64];have:=Hby.out;omega
    rw [h1,or_u64 t _ hb2 Hby.out,Hst.out];congr 1
    omega
   case measure=>simp [intOf];omega
  obtain rfl:k=s.size:=by omega
  have he:natL (s.data.toList.take s.size)=natB s:=by
   rw [show s.size=s.data.toList.length by rw [Array.length_toList];rfl,List.take_length];rfl
  have He:=jX he;clear he;go_wp2_with fail;rw [He.out];go_ret2
  exact ⟨rfl,rfl⟩
theorem word_e (s:ByteArray) (hs:¬ s.size≤8) (hm:s.size≤maxLen) (w:World) :
  Calls prog 215 #[.string s] w fun e w'=>e = .returned (.tuple #[.int .u64 0,.bool false])∧w'=w:=by
 have h8:8<s.size:=by omega
 unfold maxLen at hm;go_enter func215,ntmps215
 go_wp2_with fail;go_ret2
 exact ⟨rfl,rfl⟩
theorem ydL (s t:ByteArray) (hs:s.size≤8) (ht:t.size≤8) (w:World) :
  Calls prog 186 #[.string s,.string t] w fun e w'=>e = .returned (.tuple #[.int .u64 (natB s),.int .u64 (natB t),.bool true])∧w'=w:=by
 have H1:=jX (yfL s hs w);have H2:=jX (yfL t ht w);clear hs ht;go_enter func186,ntmps186
 go_wp2_with fail;refine H1.out.mono ?_;rintro e w' ⟨rfl,rfl⟩;dsimp only;go_wp2_with fail;refine H2.out.mono ?_;rintro e w' ⟨rfl,rfl⟩;dsimp only;go_wp2_with fail;go_ret3
 exact ⟨rfl,rfl⟩
theorem ydv (s t:ByteArray) (h:¬ (s.size≤8∧t.size≤8)) (hs:s.size≤maxLen) (ht:t.size≤maxLen) (w:World) :
  Calls prog 186 #[.string s,.string t] w fun e w'=>(∃ x y,e = .returned (.tuple #[.int .u64 x,.int .u64 y,.bool false]))∧w'=w:=by
 by_cases h1:s.size≤8
 ·have h2:¬ t.size≤8:=fun h2=>h ⟨h1,h2⟩
  have H1:=jX (yfL s h1 w);have H2:=jX (word_e t h2 ht w);clear h h1 h2 hs ht;go_enter func186,ntmps186
  go_wp2_with fail;refine H1.out.mono ?_;rintro e w' ⟨rfl,rfl⟩;dsimp only;go_wp2_with fail;refine H2.out.mono ?_;rintro e w' ⟨rfl,rfl⟩;dsimp only;go_wp2_with fail;go_ret3
  exact ⟨⟨_,_,rfl⟩,rfl⟩
 have H1:=jX (word_e s h1 hs w);by_cases h2:t.size≤8
 ·have H2:=jX (yfL t h2 w)
  clear h h1 h2 hs ht;go_enter func186,ntmps186
  go_wp2_with fail;refine H1.out.mono ?_;rintro e w' ⟨rfl,rfl⟩;dsimp only;go_wp2_with fail;refine H2.out.mono ?_;rintro e w' ⟨rfl,rfl⟩;dsimp only;go_wp2_with fail;go_ret3
  exact ⟨⟨_,_,rfl⟩,rfl⟩
 have H2:=jX (word_e t h2 ht w);clear h h1 h2 hs ht;go_enter func186,ntmps186
 go_wp2_with fail;refine H1.out.mono ?_;rintro e w' ⟨rfl,rfl⟩;dsimp only;go_wp2_with fail;refine H2.out.mono ?_;rintro e w' ⟨rfl,rfl⟩;dsimp only;go_wp2_with fail;go_ret3
 exact ⟨⟨_,_,rfl⟩,rfl⟩
theorem magL_range:∀ (n u:Nat),(magL u).length=n→magL u=(List.range n).map fun j=>UInt8.ofNat (u / 256 ^ (n-1-j) % 256)
 | 0,u,h=>by rw [List.length_eq_zero_iff.1 h];rfl
 | n+1,u,h=>by
  rcases Nat.eq_zero_or_pos u with rfl|hu
  ·rw [magL_zero] at h;simp at h
  rw [ydI hu] at h ⊢;have hl:(magL (u / 256)).length=n:=by simpa using h
  rw [magL_range n (u / 256) hl,List.range_succ,List.map_append];congr 1
  ·apply List.map_congr_left
   intro j hj;rw [List.mem_range] at hj;rw [show n+1-1-j=(n-1-j)+1 by omega,Nat.pow_succ,Nat.mul_comm,Nat.div_div_eq_div_mul]
  simp
theorem magL_bits (u:Nat) (hu:0<u) (h:u<2 ^ 64):(magL u).length=(Lib.bitLen u+7) / 8:=by
 obtain⟨h1,h2,h3⟩:=Lib.bitLenAux_bounds 64 u h (by omega);have hb:Lib.bitLen u=Lib.bitLenAux 64 u:=rfl;rw [← hb] at h1 h2 h3;generalize Lib.bitLen u=b at *;have e:∀ k,256 ^ k=2 ^ (8*k):=fun k=>by rw [Nat.pow_mul]
 have u1:(magL u).length≤(b+7) / 8:=by
  rw [ycF,e];exact Nat.lt_of_lt_of_le h3 (Nat.pow_le_pow_right (by decide) (by omega))
 have u2:¬ (magL u).length≤(b+7) / 8-1:=by
  rw [ycF,e];have:2 ^ (8*((b+7) / 8-1))≤2 ^ (b-1):=Nat.pow_le_pow_right (by decide) (by omega);omega
 omega
def mnum (u n i:Nat):List Int:=(List.range 8).map fun j=>if n≤j+i∧j<n then ((u / 256 ^ (n-1-j) % 256:Nat):Int) else 0
def mrow (u n i:Nat):Array Value:=((mnum u n i).map (Value.int .u8)).toArray
theorem mnum_zero (u n:Nat):mnum u n 0=List.replicate 8 0:=by
 unfold mnum;have:∀ j,(if n≤j+0∧j<n then ((u / 256 ^ (n-1-j) % 256:Nat):Int) else 0)=0:=fun j=>if_neg (by omega)
 simp only [this];rfl
theorem mrow_set (u n i:Nat) (hn:n≤8) (hi:i<n):(mrow u n i).setIfInBounds (n-1-i) (.int .u8 ((u / 256 ^ i % 256:Nat):Int))=mrow u n (i+1):=by
 unfold mrow;rw [List.setIfInBounds_toArray,← List.map_set];congr 2
 unfold mnum;apply List.ext_getElem
 ·simp
 intro j h1 h2;have hj:j<8:=by simpa using h2
 rw [List.getElem_set];simp only [List.getElem_map,List.getElem_range];by_cases h:n-1-i=j
 ·subst h
  rw [if_pos rfl,if_pos (by omega)];congr 4
  omega
 rw [if_neg h];by_cases h3:n≤j+i∧j<n
 ·rw [if_pos h3,if_pos (by omega)]
 rw [if_neg h3,if_neg (by omega)]
theorem mrow_get (u n i:Nat) (hn:n≤8) (hi:i<n):(mrow u n i)[n-1-i]? = some (.int .u8 0):=by
 unfold mrow mnum;rw [List.getElem?_toArray,List.getElem?_map,List.getElem?_map,List.getElem?_range (by omega)];simp only [Option.map_some];rw [if_neg (by omega)]
theorem mnum_str (u n:Nat) (hn:n≤8) (h:(magL u).length=n):strOfNums ((mnum u n n).take n)=magS u:=by
 unfold magS strOfNums;congr 2
 rw [magL_range n u h];unfold mnum;apply List.ext_getElem
 ·simp;omega
 intro j h1 h2;have hj:j<n:=by simpa using h2
 simp only [List.getElem_map,List.getElem_take,List.getElem_range];rw [if_pos ⟨by omega,hj⟩,Int.toNat_natCast]
theorem mrow_cell (u n i:Nat) (w:World) (T:TypeId):∀ j,j<8→(w.alloc (.cells (mrow u n i) T)).cell? ⟨w.heap.size,0+j,none⟩=some (.int .u8 ((mnum u n i).getD j 0)):=by
 intro j hj;rw [Nat.zero_add,World.cell?_alloc_at _ _ _ _ rfl];unfold mrow;rw [List.getElem?_toArray,List.getElem?_map,List.getD_eq_getElem?_getD];have:j<(mnum u n i).length:=by unfold mnum;simpa using hj
 rw [List.getElem?_eq_getElem this];rfl
theorem len8:prog.arrayLen 210=8:=by kernel_rfl
theorem elem8:prog.elem 210=5:=by kernel_rfl
theorem slice8 (w:World) (b:Nat) (k:Nat) (hk:k≤8):(Instr.sliceAt 210 (.pointer (some ⟨b,0,none⟩)) none (some (.int .i64 (k:Int))) none).run prog w = .ok (.slice (some ⟨b,0,none⟩) k 8) w:=by
 rw [run_sliceAt_array_h (P:=prog) w 210 ⟨b,0,none⟩ (by kernel_rfl) .i64 k (by omega) (by rw [len8];omega),elem8,sizeOf5,len8];simp [slicedAt];rfl
theorem ybi (u:Nat) (hu:u<18446744073709551616) (w:World) :
  Calls prog 160 #[.int .u64 u] w fun e w'=>e = .returned (.string (magS u))∧Keep [] w w':=by
 by_cases h0:u=0
 ·subst h0
  go_enter func160,ntmps160
  go_wp2_with fail;go_ret
  exact ⟨by rw [magS_zero];rfl,Keep.refl _ _⟩
 have hne:((u:Int) == 0)=false:=by rw [beq_eq_false_iff_ne];omega
 have HB:=jX (fun w=>Tryz.bits_Len64 (u:Int) w (by omega) (by omega));rw [Int.toNat_natCast] at HB;obtain⟨n,hn⟩:∃ n,(magL u).length=n:=⟨_,rfl⟩;have hbl:=magL_bits u (by omega) hu;have hbn:Lib.bitLen u≤64:=Lib.bitLen_le u 64 (by omega) (by omega);rw [hn] at hbl;have hn8:n≤8:=by omega
 have hqn:((Lib.bitLen u:Int)+7) / 8=(n:Int):=by omega
 have hnb:0≤(Lib.bitLen u:Int):=Int.natCast_nonneg _;have Hn:=jX hn;have Hu:=jX hu;generalize (Lib.bitLen u:Int)=bl at *;clear hn hbl h0;go_enter func160,ntmps160
 go_wp2_with fail;refine (HB.out w).mono ?_;rintro e w1 ⟨rfl,rfl⟩;dsimp only;go_wp2_with fail;have hrow:(#[.int .u8 0,.int .u8 0,.int .u8 0,.int .u8 0,.int .u8 0,.int .u8 0,.int .u8 0,.int .u8 0]:Array Value)=mrow u n 0:=by unfold mrow;rw [mnum_zero];rfl
 rw [hrow,hqn];clear hrow hqn HB hnb hbn hne;go_loopw [13] (fun i wr=>∃ k:Nat,k≤n∧i = .int .i64 k∧wr=w1.alloc (.cells (mrow u n k) 210)) (fun i _=>8-(intOf i).toNat)
 case atStart=>exact ⟨0,by omega,rfl,rfl⟩
 case round =>
  obtain⟨k,hk,rfl,rfl⟩:=hrel;by_cases hlt:k<n
  ·have Hs:=jX (mrow_set u n k hn8 hlt)
   have hg:=mrow_get u n k hn8 hlt;go_wp2_with fail;go_roundw
   case rel =>
    refine ⟨k+1,by omega,by go_num,?_⟩
    have e:((u:Int) / 2 ^ (8*k) % 256)=((u / 256 ^ k % 256:Nat):Int):=by
     rw [show (256:Nat) ^ k=2 ^ (8*k) by rw [Nat.pow_mul]]
     norm_cast
    rw [e,Hs.out]
   case measure=>simp [intOf];omega
  obtain rfl:k=n:=by omega
  have Hconv:=jX (run_convert_bytes_arg (P:=prog) (w1.alloc (.cells (mrow u k k) 210)) 211 5 underlying211 underlying5 w1.heap.size 0 k 8 ((mnum u k k).take k) (by unfold mnum;simp;omega) (fun i hi=>by
   rw [mrow_cell u k k w1 _ i (by omega),List.getD_eq_getElem?_getD,List.getD_eq_getElem?_getD,List.getElem?_take_of_lt hi]) 9 underlying9)
  have hsl:=slice8 (w1.alloc (.cells (mrow u k k) 210)) w1.heap.size k hn8;have hconv:=Hconv.out;go_wp2_with fail;go_ret
  refine ⟨?_,Keep.alloc _ _ _⟩;rw [mnum_str u k hn8 Hn.out];rfl
end Go.Proofs.YtpgffjjpiafhpaaGreatDoor
