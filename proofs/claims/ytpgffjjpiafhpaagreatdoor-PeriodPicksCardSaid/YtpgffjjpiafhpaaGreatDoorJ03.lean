/- Parts of a proof: Di Tr By Cm Ad0. -/
import Derived.RangeFuncRecord
import Derived.Deep.LoopGhost
import Derived.Test.YtpgffjjpiafhpaaGreatDoorJ01
import Derived.Test.YtpgffjjpiafhpaaGreatDoorJ02
set_option linter.unusedVariables false
set_option linter.unusedSimpArgs false
set_option maxRecDepth 100000
set_option maxHeartbeats 8000000
namespace Go.Proofs.YtpgffjjpiafhpaaGreatDoor
open Go.RowKit Tryz
def dl (B L n:Nat):List Nat:=(List.range L).map fun j=>n / B ^ j % B
theorem yaO (B L n:Nat):(dl B L n).length=L:=by simp [dl]
theorem yfJ (B L n j:Nat) (h:j<(dl B L n).length):(dl B L n)[j]=n / B ^ j % B:=by simp [dl]
theorem dl_succ (B L n:Nat):dl B (L+1) n=n % B :: dl B L (n / B):=by
 unfold dl;rw [List.range_succ_eq_map,List.map_cons,List.map_map];congr 1
 ·simp
 apply List.map_congr_left;intro j _;simp only [Function.comp];rw [Nat.pow_succ,Nat.mul_comm,Nat.div_div_eq_div_mul]
theorem yfl {B:Nat} (hB:0<B):∀ (L n:Nat),n<B ^ L→val B (dl B L n)=n
 | 0,n,h=>by
  have:n=0:=by simpa using h
  subst this;rfl
 | L+1,n,h=>by
  rw [dl_succ,val,yfl hB L (n / B) (by rw [Nat.div_lt_iff_lt_mul hB,← Nat.pow_succ];exact h)];exact Nat.mod_add_div n B
theorem yjq {B:Nat} (hB:0<B) (L n:Nat):∀ d∈dl B L n,d<B:=by
 intro d hd;unfold dl at hd;obtain⟨j,_,rfl⟩:=List.mem_map.1 hd;exact Nat.mod_lt _ hB
theorem ycX (B L:Nat):dl B L 0=List.replicate L 0:=by
 unfold dl;apply List.ext_getElem
 ·simp
 intro j h1 h2;simp
theorem dl_byte (L k N b:Nat) (hN:N<256 ^ k) (hb:b<256) (hk:k / 4<L) :
  (dl 4294967296 L N).set (k / 4) (N / 4294967296 ^ (k / 4) % 4294967296+b*2 ^ (8*(k % 4)))=dl 4294967296 L (b*256 ^ k+N) ∧
   N / 4294967296 ^ (k / 4) % 4294967296<2 ^ (8*(k % 4)):=by
 have hB:∀ j,4294967296 ^ j=2 ^ (32*j):=fun j=>by rw [Nat.pow_mul]
 have hK:256 ^ k=2 ^ (32*(k / 4))*2 ^ (8*(k % 4)):=by
  rw [show (256:Nat)=2 ^ 8 from rfl,← Nat.pow_mul,← Nat.pow_add]
  congr 1;omega
 have hs:2 ^ (8*(k % 4))≤16777216:=by
  have:2 ^ (8*(k % 4))≤2 ^ 24:=Nat.pow_le_pow_right (by decide) (by omega);exact this
 have hq:N / 2 ^ (32*(k / 4))<2 ^ (8*(k % 4)):=by
  rw [Nat.div_lt_iff_lt_mul (Nat.pow_pos (by decide)),Nat.mul_comm,← hK];exact hN
 have hm:N / 4294967296 ^ (k / 4) % 4294967296=N / 2 ^ (32*(k / 4)):=by
  rw [hB,Nat.mod_eq_of_lt (by omega)]
 refine ⟨?_,by rw [hm];exact hq⟩;apply List.ext_getElem
 ·simp [yaO]
 intro j h1 h2;have hj:j<L:=by simpa [yaO] using h2
 rw [List.getElem_set,yfJ];by_cases h:k / 4=j
 ·subst h
  rw [if_pos rfl,yfJ,hm,hB];have e:b*256 ^ k=2 ^ (32*(k / 4))*(b*2 ^ (8*(k % 4))):=by rw [hK];simp only [Nat.mul_comm,Nat.mul_assoc,Nat.mul_left_comm]
  rw [e,Nat.mul_add_div (Nat.pow_pos (by decide))];have:b*2 ^ (8*(k % 4))≤255*2 ^ (8*(k % 4)):=Nat.mul_le_mul_right _ (by omega);rw [Nat.mod_eq_of_lt (a:=b*2 ^ (8*(k % 4))+N / 2 ^ (32*(k / 4))) (by omega)];omega
 rw [if_neg h,yfJ,hB];rcases Nat.lt_or_ge j (k / 4) with h3|h3
 ·have e : b * 256 ^ k = 2 ^ (32 * j) * (4294967296 * (2 ^ (32 * (k / 4 - j - 1)) * (2 ^ (8 * (k % 4)) * b))) := by
   rw [hK,show 32*(k / 4)=32*j+(32+32*(k / 4-j-1)) by omega,Nat.pow_add,Nat.pow_add,show (2:Nat) ^ 32=4294967296 from rfl]
   generalize 2 ^ (32*j)=x;generalize 2 ^ (32*(k / 4-j-1))=y;generalize 2 ^ (8*(k % 4))=z;rw [Nat.mul_comm b];simp only [Nat.mul_assoc]
  rw [e,Nat.mul_add_div (Nat.pow_pos (by decide)),Nat.mul_add_mod]
 have hlt:256 ^ (k+1)≤2 ^ (32*j):=by
  rw [show (256:Nat)=2 ^ 8 from rfl,← Nat.pow_mul]
  exact Nat.pow_le_pow_right (by decide) (by omega)
 have hp:=Nat.pow_succ (n:=256) (m:=k);have h4:b*256 ^ k≤255*256 ^ k:=Nat.mul_le_mul_right _ (by omega);rw [Nat.div_eq_of_lt (by omega),Nat.div_eq_of_lt (by omega)]
theorem or_u32 (x b s:Nat) (hs:s<4) (hx:x<2 ^ (8*s)) (hb:b<256):bits BinOp.or IntKind.u32 (x:Int) ((b*2 ^ (8*s):Nat):Int)=((x+b*2 ^ (8*s):Nat):Int):=by
 have hp:2 ^ (8*s)≤16777216:=by
  have:2 ^ (8*s)≤2 ^ 24:=Nat.pow_le_pow_right (by decide) (by omega);exact this
 have hbs:b*2 ^ (8*s)≤255*2 ^ (8*s):=Nat.mul_le_mul_right _ (by omega)
 have h1:(BitVec.ofInt 32 (x:Int)).toNat=x:=by
  rw [BitVec.ofInt_natCast,BitVec.toNat_ofNat];exact Nat.mod_eq_of_lt (by omega)
 have h2:(BitVec.ofInt 32 ((b*2 ^ (8*s):Nat):Int)).toNat=b*2 ^ (8*s):=by
  rw [BitVec.ofInt_natCast,BitVec.toNat_ofNat];exact Nat.mod_eq_of_lt (by omega)
 show IntKind.u32.wrap ((BitVec.ofInt 32 (x:Int) ||| BitVec.ofInt 32 ((b*2 ^ (8*s):Nat):Int)).toNat:Int)=_
 have e:x ||| b*2 ^ (8*s)=x+b*2 ^ (8*s):=by
  rw [Nat.or_comm,← Nat.shiftLeft_eq,← Nat.shiftLeft_add_eq_or_of_lt hx,Nat.add_comm]
 rw [BitVec.toNat_or,h1,h2,e,IntKind.wrap_u32];omega
def u32s (l:List Nat):List Value:=l.map fun (d:Nat)=>.int .u32 (d:Int)
theorem natL_drop (l:List UInt8) (k:Nat) (h:k<l.length):natL (l.drop (l.length-(k+1)))=(l[l.length-1-k]).toNat * 256 ^ k+natL (l.drop (l.length-k)):=by
 have e:=List.drop_eq_getElem_cons (l:=l) (i:=l.length-(k+1)) (by omega);rw [e,ybC,List.length_drop,show l.length-(l.length-(k+1)+1)=k by omega]
 simp only [show l.length-(k+1)=l.length-1-k by omega,show l.length-1-k+1=l.length-k by omega]
theorem ygY (l:List UInt8) (k:Nat) (h:k≤l.length):natL (l.drop (l.length-k))<256 ^ k:=by
 have:=ycP (l.drop (l.length-k));rwa [List.length_drop,show l.length-(l.length-k)=k by omega] at this
theorem yhA (l:List Nat):(u32s l).length=l.length:=by simp [u32s]
theorem yiK (l:List Nat) (i:Nat) (h:i<l.length):(u32s l)[i]? = some (.int .u32 ((l[i]:Nat):Int)):=by simp [u32s,h]
theorem u32s_set (l:List Nat) (i d:Nat):(u32s l).set i (.int .u32 (d:Int))=u32s (l.set i d):=by simp [u32s,List.map_set]
theorem yjh (s:ByteArray) (k:Nat) (h:k<s.size):natL (s.data.toList.drop (s.size-(k+1)))=(s[s.size-1-k]'(by omega)).toNat * 256 ^ k+natL (s.data.toList.drop (s.size-k)):=by
 have:=natL_drop s.data.toList k (by rw [Array.length_toList];exact h);simp only [Array.length_toList] at this;exact this
theorem bytes_lt (s:ByteArray) (k:Nat) (h:k≤s.size):natL (s.data.toList.drop (s.size-k))<256 ^ k:=by
 have:=ygY s.data.toList k (by rw [Array.length_toList];exact h);simp only [Array.length_toList] at this;exact this
theorem yfj (w:World) (s:ByteArray) (k:Nat) (h:k<s.size):(Instr.index 9 (.string s) (.int .i64 ((s.size:Int)-1-(k:Int)))).run prog w = .ok (.int .u8 (((s[s.size-1-k]'(by omega)).toNat:Nat):Int)) w:=by
 rw [run_index_string (P:=prog) w 9 s .i64 _ underlying9,dif_pos ⟨by omega,by omega⟩];have e:((s.size:Int)-1-(k:Int)).toNat=s.size-1-k:=by omega
 simp only [e]
theorem infoU32:(prog.info? 230).map (fun i=>(i.zero,i.size,i.bytes))=some (some (.int .u32 0),1,4):=by kernel_rfl
theorem yaN {P:Program} {t:TypeId} {z:Option Value} {s b:Nat} (h:(P.info? t).map (fun i=>(i.zero,i.size,i.bytes))=some (z,s,b)):∃ i,P.info? t=some i∧i.zero=z∧i.size=s∧i.bytes=b:=by
 cases hi:P.info? t with
 | none=>rw [hi] at h;cases h
 | some i =>
  rw [hi] at h;injection h with h;injection h with h1 h2;injection h2 with h2 h3;exact ⟨i,rfl,h1,h2,h3⟩
theorem made_u32 (n:Nat):madeCells (Value.int .u32 0).cells n=(u32s (List.replicate n 0)).toArray:=by
 unfold madeCells;apply Array.ext
 ·simp [u32s]
 intro i h1 h2;simp [u32s,Value.cells,Nat.mod_one]
theorem ybs (w:World) (n:Nat) (hn:n≤10000000000000):(Instr.makeSlice 236 (.int .i64 (n:Int)) (.int .i64 (n:Int))).run prog w = .ok (.slice (some ⟨w.heap.size,0,none⟩) n n) (w.alloc (.cells (u32s (List.replicate n 0)).toArray 230)):=by
 obtain⟨i0,hi,hz0,hz1,hz2⟩:=yaN infoU32;have hm:=run_make (P:=prog) w 236 230 i0 _ underlying236 hi hz0 .i64 .i64 (n:Int) (n:Int) (by omega) (by omega) (by rw [hz2];omega) (by omega);rw [Int.toNat_natCast,hz1,Nat.mul_one,made_u32] at hm;exact hm
theorem digits_c (s:ByteArray) (hs:s.size≤1000000000000) (w:World) :
  Calls prog 216 #[.string s] w fun e w'=>e = .returned (.slice (some ⟨w.heap.size,0,none⟩) ((s.size+3) / 4) ((s.size+3) / 4)) ∧
   Keep [] w w'∧w'.heap[w.heap.size]? = some (.cells (u32s (dl 4294967296 ((s.size+3) / 4) (natB s))).toArray 230 (0,0)):=by
 obtain⟨L,hL⟩:∃ L,(s.size+3) / 4=L:=⟨_,rfl⟩;have HL:=jX hL;rw [hL];have hq:((s.size:Int)+3) / 4=(L:Int):=by omega
 have hLb:L≤500000000000:=by omega
 clear hL;have hmk:=ybs w L (by omega);go_enter func216,ntmps216
 go_wp2_with fail;rw [hq];clear hq;go_loopw [13] (fun i wr=>∃ k:Nat,k≤s.size∧i = .int .i64 k∧Keep [] w wr∧wr.heap[w.heap.size]? = some (.cells (u32s (dl 4294967296 L (natL (s.data.toList.drop (s.size-k))))).toArray 230 (0,0))) (fun i _=>s.size-(intOf i).toNat)
 case atStart =>
  refine ⟨0,by omega,rfl,Keep.alloc _ _ _,?_⟩;rw [Nat.sub_zero,show s.size=s.data.toList.length by rw [Array.length_toList];rfl,List.drop_length,natL_nil,ycX]
  exact World.alloc_heap_new w _
 case round =>
  obtain⟨k,hk,rfl,hkp,hbx⟩:=hrel;by_cases hlt:k<s.size
  ·have hN:=bytes_lt s k hk
   have hstep:=yjh s k hlt;have hby:(s[s.size-1-k]'(by omega)).toNat < 256:=UInt8.toNat_lt _;have hix:=fun w=>yfj w s k hlt;generalize (s[s.size-1-k]'(by omega)).toNat=b at hstep hby hix;have hkL:k / 4<L:=by have:=HL.out;omega
   obtain⟨hset,hdg⟩:=dl_byte L k (natL (s.data.toList.drop (s.size-k))) b hN hby hkL;have Hstep:=jX hstep;have Hset:=jX hset;generalize natL (s.data.toList.drop (s.size-k))=N at *;have hdl:k / 4<(dl 4294967296 L N).length:=by rw [yaO];exact hkL
   have hcell:=yiK (dl 4294967296 L N) (k / 4) hdl;rw [yfJ] at hcell;generalize N / 4294967296 ^ (k / 4) % 4294967296=x at *;have hor:=or_u32 x b (k % 4) (Nat.mod_lt _ (by decide)) hdg hby
   have hcw:∀ n:KW wr,(Wk wr n).cell? ⟨w.heap.size,k / 4,none⟩=some (.int .u32 (x:Int)):=fun n=>by
    show n.x.cell? _=_
    rw [yab (n.k.heap hbx (by simp))]
    simpa using hcell
   have Hbx:=jX hbx;have Hkp:=jX hkp;have hlt9:=yaa hbx;clear hstep hset hN hbx hkp hmk hcell hdl;go_wp2_with fail;refine yai 15 (by kernel_rfl) (by kernel_rfl) ?_;simp only [List.take_succ_cons,List.take_zero,List.drop_succ_cons,List.drop_zero]
   repeat (first
    | go_big_quiet_skip
    | (go_big_quiet_want;go_big_quiet_op;go_big_quiet_on))
   refine wpQuiet_nil ?_;rintro w1 ⟨⟨_,hk1⟩,rfl⟩;have hb1:=hk1.heap Hbx.out (by simp);have hc1:=yab hb1;have hf1:=yae hb1;have hl1:=yaa hb1;have hcc:w1.cell? ⟨w.heap.size,k / 4,none⟩=some (.int .u32 (x:Int)):=hcw ⟨w1,hk1⟩;have Hb1:=jX hb1;have Hk1:=jX hk1
   have hmod:((b:Int)*2 ^ (8*(k % 4)) % 4294967296)=((b*2 ^ (8*(k % 4)):Nat):Int):=by
    have hp:2 ^ (8*(k % 4))≤16777216:=by
     have:2 ^ (8*(k % 4))≤2 ^ 24:=Nat.pow_le_pow_right (by decide) (by omega);exact this
    have hbs:b*2 ^ (8*(k % 4))≤255*2 ^ (8*(k % 4)):=Nat.mul_le_mul_right _ (by omega);have e:(b:Int)*2 ^ (8*(k % 4))=((b*2 ^ (8*(k % 4)):Nat):Int):=by push_cast;rfl
    rw [e];omega
   have Hmod:=jX hmod;have Hor:=jX hor;clear hb1 hk1 hcw hmod hor hix hc1 hdg;go_wp2_with fail;go_roundw
   case rel =>
    refine ⟨k+1,by omega,by go_num,(Hkp.out.tz Hk1.out).sP _ _ _ (Nat.le_refl _),?_⟩;rw [set_same Hb1.out,Hmod.out,Hor.out,List.setIfInBounds_toArray,u32s_set,Hset.out,Hstep.out]
   case measure=>simp [intOf];omega
  obtain rfl:k=s.size:=by omega
  have Hkp:=jX hkp;have Hbx:=jX hbx;clear hkp hbx hmk;go_wp2_with fail;go_ret
  refine ⟨rfl,Hkp.out,?_⟩;have:=Hbx.out;rw [Nat.sub_self,List.drop_zero] at this;exact this
theorem ycf (l:List Nat) (m:Nat) (hm:m<l.length) (h:l[m]=0):trimD (l.take (m+1))=trimD (l.take m):=by
 rw [List.take_add_one,List.getElem?_eq_getElem hm,Option.toList_some,h,ybB]
theorem ycH (l:List Nat) (m:Nat) (hm:m<l.length) (h:l[m]≠0):trimD (l.take (m+1))=l.take (m+1):=by
 rw [List.take_add_one,List.getElem?_eq_getElem hm,Option.toList_some,ydi h]
theorem trim_c (w:World) (g o c:Nat) (l:List Nat) (hlen:l.length≤c) (hl9:c≤1000000000000) (hc:∀ i (h:i<l.length),w.cell? ⟨g,o+i,none⟩=some (.int .u32 ((l[i]:Nat):Int))) :
  Calls prog 239 #[.slice (some ⟨g,o,none⟩) l.length c] w fun e w'=>e = .returned (.slice (some ⟨g,o,none⟩) (trimD l).length c)∧w'=w:=by
 have Hc:=jX hc;clear hc;go_enter func239,ntmps239
 go_wp2_with fail;go_loopg [0] l.length (fun gn x wr=>∃ m:Nat,gn=m∧m≤l.length∧x = .slice (some ⟨g,o,none⟩) m c∧trimD (l.take m)=trimD l∧wr=w)
 case atStart=>exact ⟨l.length,rfl,Nat.le_refl _,rfl,by rw [List.take_length],rfl⟩
 case round =>
  obtain⟨m,hgm,hm,rfl,ht,rfl⟩:=hrel;have Ht:=jX ht;have Hgm:=jX hgm;clear ht hgm
  match m,hm,Ht,Hgm with
  | 0,hm,Ht,Hgm =>
   have h0:=Ht.out;rw [List.take_zero,trimD_nil] at h0;have H0:=jX h0;clear h0;go_wp2_with fail;go_ret
   refine ⟨?_,rfl⟩;rw [← H0.out];rfl
  | k+1,hm,Ht,Hgm =>
   have hcell:=Hc.out k (by omega);have hlt9:=World.block_lt_of_cell? wr _ hcell;by_cases hz:l[k]=0
   ·have hstep:=ycf l k (by omega) hz
    rw [hz] at hcell;have Hstep:=jX (hstep.symm.trans Ht.out);clear hstep hz;go_wp2_with fail;go_roundg k
    case measure=>have:=Hgm.out;omega
    case rel=>exact ⟨k,rfl,by omega,rfl,Hstep.out,rfl⟩
   have hstep:=ycH l k (by omega) hz;have Hstep:=jX (hstep.symm.trans Ht.out);have hne:(((l[k]:Nat):Int) == 0)=false:=by rw [beq_eq_false_iff_ne];omega
   generalize l[k]=d at *;clear hstep hz;go_wp2_with fail;go_ret
   refine ⟨?_,rfl⟩;rw [← Hstep.out,List.length_take,Nat.min_eq_left (by omega)];rfl
theorem yeU {B:Nat} (hB:0<B):∀ (l:List Nat) (i:Nat) (h:i<l.length),(∀ d∈l,d<B)→val B l / B ^ i % B=l[i]
 | [],i,h,_=>by simp at h
 | d :: l,0,h,hd=>by
  rw [val,Nat.pow_zero,Nat.div_one,Nat.add_mul_mod_self_left,Nat.mod_eq_of_lt (hd d (by simp))];rfl
 | d :: l,i+1,h,hd=>by
  rw [Nat.pow_succ,Nat.mul_comm (B ^ i),← Nat.div_div_eq_div_mul];have e:val B (d :: l) / B=val B l:=by rw [val,Nat.add_mul_div_left _ _ hB,Nat.div_eq_of_lt (hd d (by simp)),Nat.zero_add]
  rw [e,yeU hB l i (by simpa using h) (fun x hx=>hd x (List.mem_cons_of_mem _ hx))];rfl
theorem yiT (l:List Nat) (i k:Nat) (hi:i<l.length) (hd:∀ d∈l,d<4294967296) (hk:k<4):l[i] / 2 ^ (8*k) % 256=val 4294967296 l / 256 ^ (4*i+k) % 256:=by
 rw [← yeU (by decide) l i hi hd];generalize val 4294967296 l=N
 have e1:256 ^ (4*i+k)=4294967296 ^ i*2 ^ (8*k):=by
  rw [Nat.pow_add,Nat.pow_mul,Nat.pow_mul]
 rw [e1,← Nat.div_div_eq_div_mul];generalize N / 4294967296 ^ i=M;have e2:4294967296=2 ^ (8*k)*2 ^ (32-8*k):=by rw [← Nat.pow_add,show 8*k+(32-8*k)=32 by omega]
 have e3:2 ^ (32-8*k)=256*2 ^ (24-8*k):=by rw [show (256:Nat)=2 ^ 8 from rfl,← Nat.pow_add,show 8+(24-8*k)=32-8*k by omega]
 rw [e2,Nat.mod_mul_right_div_self,e3,Nat.mod_mul_right_mod]
def bnum (n N T:Nat):List Int:=(List.range n).map fun j=>if n≤j+T then ((N / 256 ^ (n-1-j) % 256:Nat):Int) else 0
def brow (n N T:Nat):Array Value:=((bnum n N T).map (Value.int .u8)).toArray
theorem ydm (n N T:Nat):(bnum n N T).length=n:=by simp [bnum]
theorem bnum_zero (n N:Nat):bnum n N 0=List.replicate n 0:=by
 unfold bnum;apply List.ext_getElem
 ·simp
 intro j h1 h2;have:j<n:=by simpa using h2
 simp only [List.getElem_map,List.getElem_range,List.getElem_replicate];rw [if_neg (by omega)]
theorem yin (n N T:Nat) (hT:T<n):(brow n N T).setIfInBounds (n-1-T) (.int .u8 ((N / 256 ^ T % 256:Nat):Int))=brow n N (T+1):=by
 unfold brow;rw [List.setIfInBounds_toArray,← List.map_set];congr 2
 unfold bnum;apply List.ext_getElem
 ·simp
 intro j h1 h2;have hj:j<n:=by simpa using h2
 rw [List.getElem_set];simp only [List.getElem_map,List.getElem_range];by_cases h:n-1-T=j
 ·subst h
  rw [if_pos rfl,if_pos (by omega)];congr 4
  omega
 rw [if_neg h];by_cases h3:n≤j+T
 ·rw [if_pos h3,if_pos (by omega)]
 rw [if_neg h3,if_neg (by omega)]
theorem yiG (n N T:Nat) (hT:T<n):(brow n N T)[n-1-T]? = some (.int .u8 0):=by
 unfold brow bnum;rw [List.getElem?_toArray,List.getElem?_map,List.getElem?_map,List.getElem?_range (by omega)];simp only [Option.map_some];rw [if_neg (by omega)]
theorem natL_range:∀ (n N:Nat),N<256 ^ n→natL ((List.range n).map fun j=>UInt8.ofNat (N / 256 ^ (n-1-j) % 256))=N
 | 0,N,h=>by
  have:N=0:=by simpa using h
  subst this;rfl
 | n+1,N,h=>by
  rw [List.range_succ,List.map_append,List.map_singleton,ydP]
  have e:(List.range n).map (fun j=>UInt8.ofNat (N / 256 ^ (n+1-1-j) % 256))=(List.range n).map (fun j=>UInt8.ofNat (N / 256 / 256 ^ (n-1-j) % 256)):=by
   apply List.map_congr_left;intro j hj;rw [List.mem_range] at hj;rw [show n+1-1-j=(n-1-j)+1 by omega,Nat.pow_succ,Nat.mul_comm,Nat.div_div_eq_div_mul]
  rw [e,natL_range n (N / 256) (by rw [Nat.div_lt_iff_lt_mul (by decide),← Nat.pow_succ];exact h)];simp;omega
theorem natL_drop_zeros:∀ l:List UInt8,natL (l.dropWhile (· == 0))=natL l
 | []=>rfl
 | b :: l=>by
  rw [List.dropWhile_cons];by_cases h:b=0
  ·subst h
   rw [if_pos (by decide),natL_drop_zeros l,ybC];simp
  rw [if_neg (by simpa using h)]
theorem can_drop:∀ l:List UInt8,CanL (l.dropWhile (· == 0))
 | []=>by intro b hb;simp at hb
 | b :: l=>by
  rw [List.dropWhile_cons];by_cases h:b=0
  ·subst h;rw [if_pos (by decide)];exact can_drop l
  rw [if_neg (by simpa using h)];intro c hc;simp at hc;subst hc;exact h
theorem yiJ (n N:Nat) (h:N<256 ^ n):(strOfNums (bnum n N n)).data.toList.dropWhile (· == 0)=magL N:=by
 have e:(strOfNums (bnum n N n)).data.toList=(List.range n).map fun j=>UInt8.ofNat (N / 256 ^ (n-1-j) % 256):=by
  rw [strOfNums_data];unfold bnum;rw [List.map_map];apply List.map_congr_left;intro j hj;rw [List.mem_range] at hj;simp only [Function.comp];rw [if_pos (by omega),Int.toNat_natCast]
 have h1:=natL_drop_zeros (strOfNums (bnum n N n)).data.toList;rw [e,natL_range n N h,← e] at h1;rw [← yfU _ (can_drop _),h1]
theorem infoU8n:(prog.info? 5).map (fun i=>(i.zero,i.size,i.bytes))=some (some (.int .u8 0),1,1):=by kernel_rfl
theorem made_u8n (n:Nat):madeCells (Value.int .u8 0).cells n=((List.replicate n (0:Int)).map (Value.int .u8)).toArray:=by
 unfold madeCells;apply Array.ext
 ·simp
 intro i h1 h2;simp [Value.cells,Nat.mod_one]
theorem yfx (w:World) (n N:Nat) (hn:n≤10000000000000):(Instr.makeSlice 211 (.int .i64 (n:Int)) (.int .i64 (n:Int))).run prog w = .ok (.slice (some ⟨w.heap.size,0,none⟩) n n) (w.alloc (.cells (brow n N 0) 5)):=by
 obtain⟨i0,hi,hz0,hz1,hz2⟩:=yaN infoU8n;have hm:=run_make (P:=prog) w 211 5 i0 _ underlying211 hi hz0 .i64 .i64 (n:Int) (n:Int) (by omega) (by omega) (by rw [hz2];omega) (by omega);rw [Int.toNat_natCast,hz1,Nat.mul_one,made_u8n,← bnum_zero n N] at hm;exact hm
theorem bytes_c (w:World) (g o c:Nat) (l:List Nat) (hlen:l.length≤c) (hl9:c≤1000000000000) (hd:∀ d∈l,d<4294967296) (hc:∀ i (h:i<l.length),w.cell? ⟨g,o+i,none⟩=some (.int .u32 ((l[i]:Nat):Int))) :
  Calls prog 218 #[.slice (some ⟨g,o,none⟩) l.length c] w fun e w'=>e = .returned (.string (magS (val 4294967296 l)))∧Keep [] w w':=by
 have HT:=jX (trim_c w g o c l hlen hl9 hc);have hv:=ygy 4294967296 l;have Hmem:Hid (∀ d∈trimD l,d<4294967296):=fun d h=>hd d (yhd h)
 have Hcell:Hid (∀ i (h:i<(trimD l).length),w.cell? ⟨g,o+i,none⟩=some (.int .u32 (((trimD l)[i]:Nat):Int))):=by
  obtain⟨k,hk,ek⟩:=yfs l;intro i h;have h2:i<(l.take k).length:=by rw [← ek];exact h
  have e:(trimD l)[i]=l[i]'(by rw [List.length_take] at h2;omega):=by
   have:(trimD l)[i]=(l.take k)[i]:=by simp only [ek]
   rw [this,List.getElem_take]
  rw [e];exact hc i _
 have hle:(trimD l).length≤c:=by
  obtain⟨k,hk,ek⟩:=yfs l;rw [ek,List.length_take];omega
 have hN:=val_lt (trimD l) Hmem.out;rw [hv] at hN;have Hv:=jX hv;rw [← hv];have HN:=jX hN;obtain⟨t,ht⟩:∃ t,trimD l=t:=⟨_,rfl⟩;rw [ht] at HT Hmem Hcell HN hle ⊢;clear hv hN hc hd hlen ht Hv;obtain⟨n,hn⟩:∃ n,t.length=n:=⟨_,rfl⟩;have Hn:=jX hn;have hn9:n≤1000000000000:=by omega
 rw [hn] at HT;obtain⟨N,hNv⟩:∃ N,val 4294967296 t=N:=⟨_,rfl⟩;have HNv:=jX hNv
 have hN:N<256 ^ (4*n):=by
  have:=val_lt t Hmem.out;rw [hNv,hn] at this;rwa [Nat.pow_mul,show (256:Nat) ^ 4=4294967296 from rfl]
 have HNl:=jX hN;rw [hNv];have Hmk:=jX (yfx w (4*n) N (by omega));clear hn hNv hN HN;by_cases h0:n=0
 ·subst h0
  have hz:N=0:=by have:=HNl.out;simpa using this
  subst hz;go_enter func218,ntmps218
  go_wp2_with fail;refine HT.out.mono ?_;rintro e w' ⟨rfl,rfl⟩;dsimp only;go_wp2_with fail;go_ret
  exact ⟨by rw [magS_zero];rfl,Keep.refl _ _⟩
 have hne:((n:Int) == 0)=false:=by rw [beq_eq_false_iff_ne];omega
 have hmk:=Hmk.out;rw [show ((4*n:Nat):Int)=4*(n:Int) by omega] at hmk
 clear h0;go_enter func218,ntmps218
 go_wp2_with fail;refine HT.out.mono ?_;rintro e w' ⟨rfl,rfl⟩;dsimp only;go_wp2_with fail;clear Hmk hmk;obtain⟨W,hW⟩:∃ W,W=w'.alloc (.cells (brow (4*n) N 0) 5):=⟨_,rfl⟩;go_loopw [18] (fun x wr=>∃ i:Nat,i≤n∧x = .int .i64 i∧wr=w'.alloc (.cells (brow (4*n) N (4*i)) 5)) (fun x _=>n-(intOf x).toNat)
 case atStart=>exact ⟨0,by omega,rfl,rfl⟩
 case round =>
  obtain⟨i,hi,rfl,rfl⟩:=hrel;by_cases hlt:i<n
  ·have hcell:=Hcell.out i (by have:=Hn.out;omega)
   have hgl:=World.block_lt_of_cell? _ _ hcell;have hdx:=Hmem.out _ (List.getElem_mem (show i<t.length by have:=Hn.out;omega))
   have hdb:=yiT t i;have hdb:=fun k=>hdb k (by have:=Hn.out;omega) Hmem.out;rw [HNv.out] at hdb;have Hdb:=jX hdb;clear hdb;generalize t[i]'(by have:=Hn.out;omega)=d at *;go_wp2_with fail;go_loopw [23] (fun x wr=>∃ k:Nat,k≤4∧x = .int .i64 k∧wr=w'.alloc (.cells (brow (4*n) N (4*i+k)) 5)) (fun x _=>4-(intOf x).toNat)
   case atStart=>exact ⟨0,by omega,rfl,rfl⟩
   case round =>
    obtain⟨k,hk,rfl,rfl⟩:=hrel;by_cases hk4:k<4
    ·have Hs:=jX (yin (4*n) N (4*i+k) (by omega))
     have hg:=yiG (4*n) N (4*i+k) (by omega);have e1:((4*(n:Int)-1-4*(i:Int)-(k:Int)).toNat)=4*n-1-(4*i+k):=by omega
     go_wp2_with fail;go_roundw
     case rel =>
      refine ⟨k+1,by omega,by go_num,?_⟩;have e:((d:Int) / 2 ^ (8*k) % 256)=((d / 2 ^ (8*k) % 256:Nat):Int):=by norm_cast
      rw [e,Hdb.out k hk4,Hs.out,Nat.add_assoc]
     case measure=>simp [intOf];omega
    obtain rfl:k=4:=by omega
    go_wp2_with fail;go_roundw
    case rel=>exact ⟨i+1,by omega,by go_num,by rw [show 4*(i+1)=4*i+4 by omega]⟩
    case measure=>simp [intOf];omega
  obtain rfl:i=n:=by omega
  have hbl:(bnum (4*i) N (4*i)).length=4*i:=ydm _ _ _
  have hconv:=run_convert_bytes_arg (P:=prog) (w'.alloc (.cells (brow (4*i) N (4*i)) 5)) 211 5 underlying211 underlying5 w'.heap.size 0 (4*i) (4*i) (bnum (4*i) N (4*i)) hbl (fun j hj=>by
   rw [Nat.zero_add,World.cell?_alloc_at _ _ _ _ rfl];unfold brow
   rw [List.getElem?_toArray,List.getElem?_map,List.getD_eq_getElem?_getD,List.getElem?_eq_getElem (by omega)];rfl) 9 underlying9
  have HTL:=jX (Tryz.strings_TrimLeft_one (strOfNums (bnum (4*i) N (4*i))) 0 (by decide) (w'.alloc (.cells (brow (4*i) N (4*i)) 5)));have Hm:=jX (yiJ (4*i) N HNl.out);go_wp2_with fail;refine HTL.out.mono ?_;rintro e w2 ⟨rfl,rfl⟩;dsimp only;go_wp2_with fail;go_ret
  refine ⟨?_,Keep.alloc _ _ _⟩;unfold magS;rw [← Hm.out];rfl
theorem qk {P:Program} {f:Nat} {args:Array Value} {v:Value} {w:World} (n:KW w) (h:Calls P f args (Wk w n) fun e w'=>e = .returned v∧Keep [] (Wk w n) w'):Calls P f args (Wk w n) fun e w'=>e = .returned v∧∃ m,w'=Wk w m :=
 h.mono fun e w' hw=>⟨hw.1,⟨w',n.k.tz hw.2⟩,rfl⟩
theorem qp {P:Program} {f:Nat} {args:Array Value} {v:Value} {w:World} (n:KW w) (h:Calls P f args (Wk w n) fun e w'=>e = .returned v∧w'=Wk w n):Calls P f args (Wk w n) fun e w'=>e = .returned v∧∃ m,w'=Wk w m :=
 h.mono fun e w' hw=>⟨hw.1,n,hw.2⟩
theorem or2_c (w:World) (g:Nat) (a b:Int) (ha:w.cell? ⟨g,0,none⟩=some (.int .i64 a)) (hb:w.cell? ⟨g,1,none⟩=some (.int .i64 b)) :
  Calls prog 213 #[.slice (some ⟨g,0,none⟩) 2 2] w fun e w'=>e = .returned (.int .i64 (if a=0 then b else a))∧w'=w:=by
 have hlt9:=World.block_lt_of_cell? w _ ha;by_cases h0:a=0
 ·subst h0
  by_cases h1:b=0
  ·subst h1
   go_enter func213,ntmps213
   go_wp2_with fail;go_rounds 3
   go_wp2_with fail;go_ret
   exact ⟨by simp,rfl⟩
  have hne:(b != 0)=true:=by simpa using h1
  go_enter func213,ntmps213
  go_wp2_with fail;go_rounds 3
  go_wp2_with fail;go_ret
  exact ⟨by simp,rfl⟩
 have hne:(a != 0)=true:=by simpa using h0
 go_enter func213,ntmps213
 go_wp2_with fail;go_rounds 2
 go_wp2_with fail;go_ret
 exact ⟨by simp [h0],rfl⟩
theorem yhr (s t:ByteArray) (hs:CanS s) (ht:CanS t) :
  (if Lib.compareInt s.size t.size=0 then Lib.compareBytes s.data.toList t.data.toList else Lib.compareInt s.size t.size)=Lib.compareInt (natB s) (natB t):=by
 have h:=cmp_mags (natB s) (natB t);have e1:magL (natB s)=s.data.toList:=yfU _ hs;have e2:magL (natB t)=t.data.toList:=yfU _ ht;rw [e1,e2,Array.length_toList,Array.length_toList] at h;change (if s.size<t.size then (-1:Int) else if t.size<s.size then 1 else _)=_ at h
 rw [← h];unfold Lib.compareInt;by_cases h1:s.size<t.size
 ·have:(s.size:Int)<t.size:=by omega
  simp [h1,this]
 by_cases h2:t.size<s.size
 ·have h3:¬ (s.size:Int)<t.size:=by omega
  have h4:(s.size:Int) > t.size:=by omega
  simp [h1,h2,h3,h4]
 have h3:¬ (s.size:Int)<t.size:=by omega
 have h4:¬ (s.size:Int) > t.size:=by omega
 simp [h1,h2,h3,h4]
theorem ycy (s t:ByteArray) (hs:CanS s) (ht:CanS t) (w:World) :
  Calls prog 185 #[.string s,.string t] w fun e w'=>e = .returned (.int .i64 (Lib.compareInt (natB s) (natB t)))∧Keep [] w w':=by
 have H1:=jX (Tryz.cmp_Compare_int s.size t.size w);have H2:=fun w=>Tryz.strings_Compare s t w;have H2:=jX H2;rw [← yhr s t hs ht];generalize Lib.compareInt (s.size:Int) t.size=a at *;generalize Lib.compareBytes s.data.toList t.data.toList=b at *;have Hor:=jX (fun w g=>or2_c w g a b);generalize (if a=0 then b else a)=v at *
 clear hs ht;go_enter func185,ntmps185
 go_wp2_with fail;refine H1.out.mono ?_;rintro e w1 ⟨rfl,rfl⟩;dsimp only;go_wp2_with fail;refine (H2.out _).mono ?_;rintro e w2 ⟨rfl,rfl⟩;dsimp only;go_wp2_with fail;refine (Hor.out _ w2.heap.size (by simp) (by simp)).mono ?_;rintro e w3 ⟨rfl,rfl⟩;dsimp only;go_wp2_with fail;go_ret
 exact ⟨rfl,Keep.alloc _ _ _⟩
def mixd (B L i X S:Nat):List Nat:=(List.range L).map fun j=>if j<i then S / B ^ j % B else X / B ^ j % B
theorem yhI (B L i X S:Nat):(mixd B L i X S).length=L:=by simp [mixd]
theorem yby (B L X S:Nat):mixd B L 0 X S=dl B L X:=by simp [mixd,dl]
theorem ybA (B L X S:Nat):mixd B L L X S=dl B L S:=by
 unfold mixd dl;apply List.map_congr_left;intro j hj;rw [List.mem_range] at hj;rw [if_pos hj]
theorem yiu (B L i X S:Nat) (h:i<L):(mixd B L i X S)[i]? = some (X / B ^ i % B):=by
 unfold mixd;rw [List.getElem?_map,List.getElem?_range h];simp
theorem yaV (B L i X S:Nat) (h:i<L):(mixd B L i X S).set i (S / B ^ i % B)=mixd B L (i+1) X S:=by
 unfold mixd;apply List.ext_getElem
 ·simp
 intro j h1 h2;rw [List.getElem_set];simp only [List.getElem_map,List.getElem_range];by_cases e:i=j
 ·subst e;simp
 rw [if_neg e];by_cases h3:j<i
 ·rw [if_pos h3,if_pos (by omega)]
 rw [if_neg h3,if_neg (by omega)]
theorem dl_snoc {B n X:Nat} (hB:0<B) (h:X<B ^ n):dl B (n+1) X=dl B n X++[0]:=by
 unfold dl;rw [List.range_succ,List.map_append,List.map_singleton,Nat.div_eq_of_lt h,Nat.zero_mod]
def carryA (B i X Y:Nat):Nat:=(X % B ^ i+Y % B ^ i) / B ^ i
theorem ybN {B:Nat} (hB:0<B) (i X Y:Nat):carryA B i X Y≤1:=by
 unfold carryA;have hp:0<B ^ i:=Nat.pow_pos hB;have h1:=Nat.mod_lt X hp;have h2:=Nat.mod_lt Y hp;have:(X % B ^ i+Y % B ^ i) / B ^ i<2:=by rw [Nat.div_lt_iff_lt_mul hp];omega
 omega
theorem ycb (B X Y:Nat):carryA B 0 X Y=0:=by
 unfold carryA;simp [Nat.mod_one]
theorem yaZ {B:Nat} (hB:0<B) (i X Y:Nat):(carryA B i X Y+X / B ^ i % B+Y / B ^ i % B) % B=(X+Y) / B ^ i % B:=by
 unfold carryA;have hp:0<B ^ i:=Nat.pow_pos hB;generalize B ^ i=p at *
 have e:(X+Y) / p=X / p+Y / p+(X % p+Y % p) / p:=by
  have e1:X+Y=X % p+Y % p+p*(X / p+Y / p):=by
   have:=Nat.div_add_mod X p;have:=Nat.div_add_mod Y p;rw [Nat.mul_add];omega
  rw [e1,Nat.add_mul_div_left _ _ hp,Nat.add_comm]
 rw [e,Nat.add_mod_mod,Nat.add_right_comm,Nat.add_mod_mod];congr 1
 omega
theorem ybg {B:Nat} (hB:0<B) (i X Y:Nat):(carryA B i X Y+X / B ^ i % B+Y / B ^ i % B) / B=carryA B (i+1) X Y:=by
 unfold carryA;have hp:0<B ^ i:=Nat.pow_pos hB;rw [Nat.pow_succ,Nat.mod_mul,Nat.mod_mul];generalize B ^ i=p at *;rw [← Nat.div_div_eq_div_mul];have e1:X % p+p*(X / p % B)+(Y % p+p*(Y / p % B))=X % p+Y % p+p*(X / p % B+Y / p % B):=by rw [Nat.mul_add];omega
 rw [e1,Nat.add_mul_div_left _ _ hp,Nat.add_assoc]
def yaB (B i X Y:Nat):Nat:=if X % B ^ i<Y % B ^ i then 1 else 0
theorem ydz (B X Y:Nat):yaB B 0 X Y=0:=by
 unfold yaB;simp [Nat.mod_one]
theorem ycE {B:Nat} (hB:0<B) (i X Y:Nat) (hXY:Y≤X) :
  (X / B ^ i % B<Y / B ^ i % B+yaB B i X Y→yaB B (i+1) X Y=1∧X / B ^ i % B+B=(X-Y) / B ^ i % B+Y / B ^ i % B+yaB B i X Y) ∧
  (¬ X / B ^ i % B<Y / B ^ i % B+yaB B i X Y→yaB B (i+1) X Y=0∧X / B ^ i % B=(X-Y) / B ^ i % B+Y / B ^ i % B+yaB B i X Y):=by
 have hp:0<B ^ i:=Nat.pow_pos hB
 -- S=X-Y: then yaB is the carry of Y+S
 obtain⟨S,rfl⟩:∃ S,X=Y+S:=⟨X-Y,by omega⟩;rw [Nat.add_sub_cancel_left]
 have key:∀ k,yaB B k (Y+S) Y=carryA B k Y S:=fun k=>by
  unfold yaB carryA;have hk:0<B ^ k:=Nat.pow_pos hB;generalize B ^ k=p at *;have h1:=Nat.mod_lt Y hk;have h2:=Nat.mod_lt S hk;rw [Nat.add_mod Y S p];rcases Nat.lt_or_ge (Y % p+S % p) p with h|h
  ·rw [Nat.mod_eq_of_lt h,Nat.div_eq_of_lt h,if_neg (by omega)]
  rw [Nat.mod_eq_sub_mod h,Nat.mod_eq_of_lt (by omega),if_pos (by omega)];exact (Nat.div_eq_of_lt_le (by omega) (by omega)).symm
 rw [key,key];have h1:=yaZ hB i Y S;have h2:=ybg hB i Y S;have h3:=ybN hB i Y S;have h4:=Nat.mod_lt (Y / B ^ i) hB;have h5:=Nat.mod_lt (S / B ^ i) hB;rw [← h1,← h2];generalize Y / B ^ i % B=y at *;generalize S / B ^ i % B=s at *;generalize carryA B i Y S=c at *;constructor
 ·intro h
  rcases Nat.lt_or_ge (c+y+s) B with h6|h6
  ·rw [Nat.mod_eq_of_lt h6] at h;omega
  rw [Nat.mod_eq_sub_mod h6,Nat.mod_eq_of_lt (by omega)];exact ⟨Nat.div_eq_of_lt_le (by omega) (by omega),by omega⟩
 intro h;rcases Nat.lt_or_ge (c+y+s) B with h6|h6
 ·rw [Nat.mod_eq_of_lt h6]
  exact ⟨Nat.div_eq_of_lt h6,by omega⟩
 rw [Nat.mod_eq_sub_mod h6,Nat.mod_eq_of_lt (by omega)] at h;omega
theorem yaC {w:World} {b L n:Nat} (h:w.heap[b]? = some (.cells (u32s (dl 4294967296 L n)).toArray 230 (0,0))) (i:Nat) (hi:i<L):w.cell? ⟨b,i,none⟩=some (.int .u32 ((n / 4294967296 ^ i % 4294967296:Nat):Int)):=by
 rw [yab h];have hl:i<(dl 4294967296 L n).length:=by rw [yaO];exact hi
 have:=yiK (dl 4294967296 L n) i hl;rw [yfJ] at this
 simpa using this
theorem yaL {w:World} {b L i X S:Nat} (h:w.heap[b]? = some (.cells (u32s (mixd 4294967296 L i X S)).toArray 230 (0,0))) (hi:i<L):w.cell? ⟨b,i,none⟩=some (.int .u32 ((X / 4294967296 ^ i % 4294967296:Nat):Int)):=by
 rw [yab h];have:=yiu 4294967296 L i X S hi;simp [u32s,this]
theorem dl_pad {B:Nat} (hB:0<B) (n X:Nat) (h:X<B ^ n):∀ k,dl B (n+k) X=dl B n X++List.replicate k 0
 | 0=>by simp
 | k+1=>by
  have h2:X<B ^ (n+k):=Nat.lt_of_lt_of_le h (Nat.pow_le_pow_right hB (by omega));rw [← Nat.add_assoc,dl_snoc hB h2,dl_pad hB n X h k,List.append_assoc,← List.replicate_succ']
theorem ygW (w:World) (cs ds:Array Value) (t:TypeId):(w.alloc (.cells cs t)).setRow w.heap.size ds=w.alloc (.cells ds t):=by
 unfold World.setRow World.alloc;congr 1
 apply Array.ext
 ·simp
 intro i h1 h2;rw [Array.getElem_modify];by_cases h:i=w.heap.size
 ·subst h;simp
 have:i<w.heap.size:=by simp at h2;omega
 simp [Array.getElem_push,this,Ne.symm h]
theorem add_plain (b off j:Nat):(⟨b,off,none⟩:Addr).add j=⟨b,off+j,none⟩:=by unfold Addr.add;split<;>simp_all
theorem ydX (w:World) (gx n L X:Nat) (hx:w.heap[gx]? = some (.cells (u32s (dl 4294967296 n X)).toArray 230 (0,0))) (hX:X<4294967296 ^ n) (hnL:n≤L) :
  (Builtin.copy_ #[236,236] 3 #[.slice (some ⟨w.heap.size,0,none⟩) L L,.slice (some ⟨gx,0,none⟩) n n]).run prog (w.alloc (.cells (u32s (List.replicate L 0)).toArray 230)) =
   .ok (.int .i64 (n:Int)) (w.alloc (.cells (u32s (dl 4294967296 L X)).toArray 230)):=by
 have hl:(u32s (dl 4294967296 n X)).length=n:=by rw [yhA,yaO]
 have hlt:=yaa hx
 have h:=run_copy_row (P:=prog) (w.alloc (.cells (u32s (List.replicate L 0)).toArray 230)) 236 236 3 230 w.heap.size 0 L L ⟨gx,0,none⟩ n n (u32s (List.replicate L 0)).toArray 230 (u32s (dl 4294967296 n X)) underlying236 (by kernel_rfl) (World.alloc_heap_new w _) (by rw [hl];exact (Nat.min_eq_left hnL).symm)
  (fun j v hj=>by
   rw [add_plain,Nat.zero_add,World.cell?_alloc_old w _ ⟨gx,j,none⟩ (Nat.ne_of_lt hlt),yab hx,List.getElem?_toArray];exact hj)
  (by rw [hl];simp [u32s];exact hnL)
  (fun v hv=>by
   simp only [u32s,List.mem_map] at hv
   obtain⟨d,_,rfl⟩:=hv;rfl)
 rw [ygW,hl] at h;obtain⟨k,rfl⟩:∃ k,L=n+k:=⟨L-n,by omega⟩;rw [dl_pad (by decide) n X hX k]
 have e:(List.take 0 (u32s (List.replicate (n+k) 0)).toArray.toList++u32s (dl 4294967296 n X)++List.drop (0+n) (u32s (List.replicate (n+k) 0)).toArray.toList)=u32s (dl 4294967296 n X++List.replicate k 0):=by
  simp [u32s]
 rw [e] at h;exact h
end Go.Proofs.YtpgffjjpiafhpaaGreatDoor
