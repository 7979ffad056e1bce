/- Parts of a proof: Base Shelf Nb. -/
import Derived.WalkKit
import Derived.WalkLawsBesides
import Derived.WalkSpells
import Derived.ProofKit
import Derived.OpenShut
import Derived.Handy
import Derived.BigQuiet
import Derived.Lib.Hide
import Derived.Deep.AppendSrc
import Derived.Lib.Builder
import Derived.Lib.AppendStr
import Derived.Lib.UnsafeStr
import Derived.Lib.Walk
import Derived.Lib.Strings
import Derived.Laws.Externs
import Derived.Sort.Grow
import Derived.Deep.Draws
import Derived.Shelf.Strings.Builder1
import Derived.Shelf.Strings.Builder2
import Derived.Shelf.Strings.Trim
import Derived.Shelf.Small.Utf8
import Derived.Shelf.Small.Bits
import Derived.Shelf.Small.Strs
import Derived.Shelf.Small.Wraps
import Derived.Shelf.Strings.BuilderF
import Derived.Shelf.Strings.BuilderK
import Derived.Shelf.Strings.Builder2Cap
import Derived.Shelf.Strconv.Itoa0
import Derived.Shelf.Strings.Search1
import Derived.Shelf.Strings.Prefix
import Derived.Shelf.Strings.Runes
import Derived.Shelf.Strings.AsciiSet
import Derived.Shelf.Bits.Mul64
import Derived.Shelf.Strings.Repeat
import Derived.Shelf.Unicode.DecodeSlow
import Derived.Shelf.Unicode.DecodeAny
import Derived.Shelf.Strings.BuilderCap
import Derived.Ground.Names2Prog
import Derived.Shelf.Slices.SearchI
import Derived.StillTail
import Derived.OrdersHeld
import Derived.Test.YtpgffjjpiafhpaaGreatDoorProg
set_option linter.unusedVariables false
set_option linter.unusedSimpArgs false
set_option maxRecDepth 100000
set_option maxHeartbeats 8000000
namespace Go.Proofs.YtpgffjjpiafhpaaGreatDoor
open Go.RowKit
theorem jX {p:Prop} (h:p):Hid p:=h
structure Keep (F:List Nat) (w w':World):Prop where
 os:w'.os=w.os
 tape:w'.tape=w.tape
 output:w'.output=w.output
 size:w.heap.size≤w'.heap.size
 drawn:w.drawn≤w'.drawn
 block:∀ k,k<w.heap.size→k ∉ F→w'.heap[k]? = w.heap[k]?
theorem yaa {w:World} {k:Nat} {o:Obj} (h:w.heap[k]? = some o):k<w.heap.size:=(Array.getElem?_eq_some_iff.1 h).1
theorem Keep.refl (F:List Nat) (w:World):Keep F w w:=⟨rfl,rfl,rfl,Nat.le_refl _,Nat.le_refl _,fun _ _ _=>rfl⟩
theorem Keep.trans {F G:List Nat} {a b c:World} (h:Keep F a b) (k:Keep G b c) (hG:∀ x∈G,x∈F∨a.heap.size≤x):Keep F a c :=
 ⟨k.os.trans h.os,k.tape.trans h.tape,k.output.trans h.output,Nat.le_trans h.size k.size,Nat.le_trans h.drawn k.drawn,fun i hi hn =>
  (k.block i (Nat.lt_of_lt_of_le hi h.size) (fun hm=>by rcases hG i hm with h1|h1<;>first|exact hn h1|omega)).trans (h.block i hi hn)⟩
theorem Keep.mono {F G:List Nat} {a b:World} (h:Keep F a b) (hG:∀ x∈F,x∈G):Keep G a b :=
 ⟨h.os,h.tape,h.output,h.size,h.drawn,fun i hi hn=>h.block i hi (fun hm=>hn (hG i hm))⟩
theorem Keep.heap {F:List Nat} {w w':World} (h:Keep F w w') {k:Nat} {o:Obj} (hk:w.heap[k]? = some o) (hn:k ∉ F):w'.heap[k]? = some o :=
 (h.block k (yaa hk) hn).trans hk
theorem Keep.below {F:List Nat} {w w':World} {B:Nat} (h:Keep F w w') (hF:∀ x∈F,B≤x) (hB:B≤w.heap.size):Below B w w' :=
 ⟨h.os,h.tape,h.output,h.size,fun k hk=>h.block k (by omega) (fun hm=>by have:=hF k hm;omega)⟩
theorem Keep.bz {w w':World} (h:Keep [] w w'):Below w.heap.size w w':=h.below (by simp) (Nat.le_refl _)
theorem Keep.drew (F:List Nat) (w:World):Keep F w w.drew:=⟨rfl,rfl,rfl,Nat.le_refl _,Nat.le_succ _,fun _ _ _=>rfl⟩
theorem Keep.drewN (F:List Nat) (w:World) (n:Nat):Keep F w (w.drewN n):=⟨rfl,rfl,rfl,Nat.le_refl _,Nat.le_add_right _ _,fun _ _ _=>rfl⟩
theorem Keep.alloc (F:List Nat) (w:World) (o:Obj):Keep F w (w.alloc o) :=
 ⟨rfl,rfl,rfl,by simp,Nat.le_refl _,fun k hk _=>Below.heap_alloc w o k hk⟩
theorem Keep.setCell (F:List Nat) (w:World) (b i:Nat) (v:Value) (hb:b∈F ):Keep F w (w.setCell ⟨b,i,none⟩ v) :=
 ⟨rfl,rfl,rfl,by simp [World.setCell],Nat.le_refl _,fun k hk hn=>Below.heap_setCell w _ v k (fun e=>hn (by rw [e];exact hb))⟩
theorem Keep.grown {F:List Nat} {w w':World} {row:Option Nat} (hg:w.grownBy w' row) (hd:w.drawn≤w'.drawn) (hr:∀ k,row=some k→k∈F):Keep F w w' :=
 ⟨hg.os,hg.tape,hg.output,hg.size,hd,fun k hk hn=>hg.block k hk (fun e=>hn (hr k e.symm))⟩
theorem Keep.grownPast {F:List Nat} {w a a':World} {row:Option Nat} (h:Keep F w a) (hg:a.grownBy a' row) (hd:a.drawn≤a'.drawn) (hr:∀ k,row=some k→w.heap.size≤k):Keep F w a' :=
 ⟨hg.os.trans h.os,hg.tape.trans h.tape,hg.output.trans h.output,Nat.le_trans h.size hg.size,Nat.le_trans h.drawn hd,fun k hk hn =>
  (hg.block k (Nat.lt_of_lt_of_le hk h.size) (fun e=>by have:=hr k e.symm;omega)).trans (h.block k hk hn)⟩
theorem Keep.aP {F:List Nat} {w a:World} (h:Keep F w a) (o:Obj):Keep F w (a.alloc o):=h.trans (Keep.alloc [] a o) (by simp)
theorem Keep.dP {F:List Nat} {w a:World} (h:Keep F w a):Keep F w a.drew:=h.trans (Keep.drew [] a) (by simp)
theorem Keep.sP {F:List Nat} {w a:World} (h:Keep F w a) (b i:Nat) (v:Value) (hb:w.heap.size≤b):Keep F w (a.setCell ⟨b,i,none⟩ v) :=
 h.trans (Keep.setCell [b] a b i v (by simp)) (fun x hx=>by simp at hx;omega)
theorem Keep.regrown {w w':World} (h:Keep [] w w'):∃ n os,w'=Go.Sort.grow (w.drewN n) os:=by
 refine ⟨w'.drawn-w.drawn,w'.heap.extract w.heap.size w'.heap.size,?_⟩;obtain⟨heap,tape,drawn,os,output⟩:=w';have h1:=h.os;have h2:=h.tape;have h3:=h.output;have h4:=h.size;have h5:=h.drawn;have h6:=fun k hk=>h.block k hk (by simp);dsimp only at h1 h2 h3 h4 h5 h6 ⊢;subst h1 h2 h3;have hd:w.drawn+(drawn-w.drawn)=drawn:=by omega
 have hh:w.heap++heap.extract w.heap.size heap.size=heap:=by
  apply Array.ext
  ·simp;omega
  intro i hi hi2;rw [Array.getElem_append];split
  ·rename_i hlt
   have:=h6 i hlt;rw [Array.getElem?_eq_getElem hi2,Array.getElem?_eq_getElem hlt] at this;injection this with this;exact this.symm
  rename_i hge;simp only [Array.getElem_extract];congr 1
  omega
 unfold Go.Sort.grow World.drewN;rw [hd];dsimp only;rw [hh]
theorem yab {w:World} {b:Nat} {cs:Array Value} {t:TypeId} {f:Nat × Nat} (h:w.heap[b]? = some (.cells cs t f)) (i:Nat):w.cell? ⟨b,i,none⟩=cs[i]?:=by
 simp [World.cell?,h]
theorem yae {w:World} {b:Nat} {cs:Array Value} {t:TypeId} (h:w.heap[b]? = some (.cells cs t (0,0))) (i:Nat):w.frozen? ⟨b,i,none⟩=false:=by
 simp [World.frozen?,h]
theorem jH {w w':World} {k:Nat} {o:Obj} (hk:Keep [] w w') (h:Hid (w.heap[k]? = some o)):Hid (w'.heap[k]? = some o):=jX (hk.heap h.out (by simp))
theorem jQ {w:World} {b:Nat} {cs:Array Value} {t:TypeId} (h:Hid (w.heap[b]? = some (.cells cs t))):(∀ i:Nat,w.cell? ⟨b,i,none⟩=cs[i]?)∧(∀ i:Nat,w.frozen? ⟨b,i,none⟩=false)∧b<w.heap.size:=⟨yab h.out,yae h.out,yaa h.out⟩
theorem set_same {w:World} {b:Nat} {cs:Array Value} {t:TypeId} {f:Nat × Nat} (h:w.heap[b]? = some (.cells cs t f)) (i:Nat) (v:Value) :
  (w.setCell ⟨b,i,none⟩ v).heap[b]? = some (.cells (cs.setIfInBounds i v) t f):=by
 simp [World.setCell,Array.getElem?_modify,h]
theorem ygJ {w:World} {b k:Nat} (i:Nat) (v:Value) (h:k≠b):(w.setCell ⟨b,i,none⟩ v).heap[k]? = w.heap[k]?:=Below.heap_setCell w _ v k h
section
variable {P:Program} {ops:Array Oper} {C:World→Prop} {Q:Act→Prop} {a:Act} {o:Oper} {rest:List Oper}
end
section
variable {P:Program} (w:World)
theorem yeY (t ty e:TypeId) (i:TypeInfo) (z:Value) (size bytes:Nat) (ht:P.underlying t=some (.slice e)) (hi:P.info? e=some i) (hz:i.zero=some z)
  (hsize:i.size=size) (hby:i.bytes=bytes) (hzs:z.cells.size=size) (hsz:0<size)
  (v:Value) (n:Nat) (xs:List Value) (hown:w.ownsRow 0 e size v n xs)
  (a:Addr) (m c:Nat) (news:List Value) (hl:news.length=m*size) (hnews:∀ j u,news[j]? = some u→w.cell? (a.add j)=some u) (h1:∀ u∈news,u.oneCell'=true)
  (hm:0<m) (h63:n+m≤maxLen) (hbytes:(n+m)*bytes≤140737488355328) :
  ∃ g cap w',(Builtin.append_ #[t,t] ty #[v,.slice (some a) m c]).run P w = .ok (.slice (some ⟨g,0,none⟩) (n+m) cap) w'∧w'.ownsRow 0 e size (.slice (some ⟨g,0,none⟩) (n+m) cap) (n+m) (xs++news)∧w.grownBy w' v.ownBlock ∧
   (some g=v.ownBlock∨w.heap.size≤g)∧w.drawn≤w'.drawn:=by
 obtain⟨v',w',hr,ho,hg,_⟩:=run_append_own (P:=P) w 0 t ty e i z size bytes ht hi hz hsize hby hzs hsz v n xs hown a m c news hl hnews h1 h63 hbytes (Nat.zero_le _);subst hsize;subst hby;have hsmall:n+m≤9223372036854775807:=by simp only [maxLen] at h63;omega
 have fin : ∀ g cap w'', (Builtin.append_ #[t, t] ty #[v, .slice (some a) m c]).run P w = .ok (.slice (some ⟨g, 0, none⟩) (n + m) cap) w'' → (some g = v.ownBlock ∨ w.heap.size ≤ g) → w.drawn ≤ w''.drawn →
   ∃ g cap w',(Builtin.append_ #[t,t] ty #[v,.slice (some a) m c]).run P w = .ok (.slice (some ⟨g,0,none⟩) (n+m) cap) w'∧w'.ownsRow 0 e i.size (.slice (some ⟨g,0,none⟩) (n+m) cap) (n+m) (xs++news)∧w.grownBy w' v.ownBlock ∧
   (some g=v.ownBlock∨w.heap.size≤g)∧w.drawn≤w'.drawn:=by
  intro g cap w'' h1 h2 h2d;have h3:=h1;rw [hr] at h3;injection h3 with h3 h4;subst h3;subst h4;exact ⟨g,cap,_,h1,ho,hg,h2,h2d⟩
 rcases hown.2 with ⟨rfl,rfl⟩|⟨g,cap,cur,rfl,hbg,hgg,hnc,hcm,hcs,htake⟩
 ·have hx:xs=[]:=List.eq_nil_of_length_eq_zero (by simpa using hown.1)
  subst hx;have hr2:=run_append_nil (P:=P) w t ty e i z ht hi hz a m c news hl hnews (by omega) (by omega) (by have hb:=hbytes;simp only [Nat.zero_add] at hb;omega);exact fin _ _ _ (by rw [hr2,Nat.zero_add]) (.inr (Nat.le_refl _)) (Nat.le_succ _)
 by_cases hroom:n+m≤cap
 ·have hfit:n*i.size+news.length≤cur.size:=by rw [hl,hcs,← Nat.add_mul];exact Nat.mul_le_mul_right _ hroom
  exact fin _ _ _ (run_append_room (P:=P) w t ty e i ht hi g n cap cur hgg a m c news hl hnews h1 hroom hfit) (.inl rfl) (Nat.le_refl _)
 have holds:∀ j u,xs[j]? = some u→w.cell? ((⟨g,0,none⟩:Addr).add j)=some u:=hown.cells (g:=g) rfl;exact fin _ _ _ (run_append_grow (P:=P) w t ty e i z ht hi hz ⟨g,0,none⟩ n cap xs hown.1 holds a m c news hl hnews (by omega) (by omega) (growslice_fits (by omega) hbytes)) (.inr (Nat.le_refl _)) (Nat.le_succ _)
theorem yan {ops:Array Oper} {rest:List Oper} {o:Oper} {a:Act} {Q:Exit→Act→World→Prop} (hgd:o.guard=none) (s x:Operand) (t:TypeId)
  (ho:o.op = .call { callee:=.builtin .append,args:=#[s,x],argTypes:=#[t,t] })
  (e:TypeId) (i:TypeInfo) (z:Value) (size bytes:Nat) (ht:P.underlying t=some (.slice e)) (hi:P.info? e=some i) (hz:i.zero=some z)
  (hsize:i.size=size) (hby:i.bytes=bytes) (hzs:z.cells.size=size) (hsz:0<size)
  (v:Value) (n:Nat) (xs:List Value) (hs:a.eval s=v) (hown:w.ownsRow 0 e size v n xs)
  (ad:Addr) (m c:Nat) (news:List Value) (hx:a.eval x = .slice (some ad) m c) (hl:news.length=m*size) (hnews:∀ j u,news[j]? = some u→w.cell? (ad.add j)=some u) (h1:∀ u∈news,u.oneCell'=true)
  (hm:0<m) (h63:n+m≤maxLen) (hbytes:(n+m)*bytes≤140737488355328)
  (h:∀ g cap w',w'.ownsRow 0 e size (.slice (some ⟨g,0,none⟩) (n+m) cap) (n+m) (xs++news)→w.grownBy w' v.ownBlock→(some g=v.ownBlock∨w.heap.size≤g)→w.drawn≤w'.drawn→wpList P ops Q rest (a.put o.dst (.slice (some ⟨g,0,none⟩) (n+m) cap)) w'):wpList P ops Q (o :: rest) a w:=by
 refine wpList_plain hgd fun K hK=>?_;obtain⟨g,cap,w',hr,h2,h3,h4,h5⟩:=yeY (P:=P) w t o.type e i z size bytes ht hi hz hsize hby hzs hsz v n xs hown ad m c news hl hnews h1 hm h63 hbytes;unfold Oper.wp execOp;simp only [ho,resolve,invoke,builtin,Sem.run_bind,Sem.run_pure,Result.andThen_ok,List.map_toArray,List.map_cons,List.map_nil,hs,hx,hr];exact hK _ _ (h g cap w' h2 h3 h4 h5)
end
end Go.Proofs.YtpgffjjpiafhpaaGreatDoor
namespace Go.Proofs
open Go.RowKit
section
open Go.Shelf
def Tryz.lays161_ren:Go.Shelf.Ren:=⟨fun|161=>240|231=>252|227=>253|233=>254|235=>255|228=>261|197=>262|151=>263|260=>266|152=>267|137=>268|119=>269|224=>270|225=>271|217=>272|266=>273|n=>n,fun|9=>9|4=>4|3=>3|5=>5|117=>278|116=>277|0=>0|124=>281|105=>287|21=>21|119=>294|46=>201|139=>297|138=>296|n=>n,fun|3=>1|4=>2|n=>n⟩
theorem Tryz.lays161:Go.Proofs.Lays.n161 Tryz.prog Tryz.lays161_ren:={
 mixed:=by kernel_rfl
 f119:=Tryz.func269.trans (congrArg some (by kernel_rfl))
 f137:=Tryz.func268.trans (congrArg some (by kernel_rfl))
 f151:=Tryz.func263.trans (congrArg some (by kernel_rfl))
 f152:=Tryz.func267.trans (congrArg some (by kernel_rfl))
 f161:=Tryz.func240.trans (congrArg some (by kernel_rfl))
 f197:=Tryz.func262.trans (congrArg some (by kernel_rfl))
 f217:=Tryz.func272.trans (congrArg some (by kernel_rfl))
 f224:=Tryz.func270.trans (congrArg some (by kernel_rfl))
 f225:=Tryz.func271.trans (congrArg some (by kernel_rfl))
 f227:=Tryz.func253.trans (congrArg some (by kernel_rfl))
 f228:=Tryz.func261.trans (congrArg some (by kernel_rfl))
 f231:=Tryz.func252.trans (congrArg some (by kernel_rfl))
 f233:=Tryz.func254.trans (congrArg some (by kernel_rfl))
 f235:=Tryz.func255.trans (congrArg some (by kernel_rfl))
 f260:=Tryz.func266.trans (congrArg some (by kernel_rfl))
 f266:=Tryz.func273.trans (congrArg some (by kernel_rfl))
 t0:=Tryz.underlying0
 a0:=Tryz.isAgg0
 z0:=Tryz.sizeOf0
 v0:=Tryz.zeroValue0
 t3:=Tryz.underlying3
 a3:=Tryz.isAgg3
 z3:=Tryz.sizeOf3
 v3:=Tryz.zeroValue3
 t4:=Tryz.underlying4
 a4:=Tryz.isAgg4
 z4:=Tryz.sizeOf4
 v4:=Tryz.zeroValue4
 t5:=Tryz.underlying5
 a5:=Tryz.isAgg5
 z5:=Tryz.sizeOf5
 v5:=Tryz.zeroValue5
 t9:=Tryz.underlying9
 a9:=Tryz.isAgg9
 z9:=Tryz.sizeOf9
 v9:=Tryz.zeroValue9
 t21:=Tryz.underlying21
 a21:=Tryz.isAgg21
 z21:=Tryz.sizeOf21
 v21:=Tryz.zeroValue21
 t46:=Tryz.underlying201
 a46:=Tryz.isAgg201
 z46:=Tryz.sizeOf201
 v46:=Tryz.zeroValue201
 t105:=Tryz.underlying287
 a105:=Tryz.isAgg287
 z105:=Tryz.sizeOf287
 v105:=Tryz.zeroValue287
 t116:=Tryz.underlying277
 a116:=Tryz.isAgg277
 z116:=Tryz.sizeOf277
 t117:=Tryz.underlying278
 a117:=Tryz.isAgg278
 z117:=Tryz.sizeOf278
 v117:=Tryz.zeroValue278
 t119:=Tryz.underlying294
 a119:=Tryz.isAgg294
 z119:=Tryz.sizeOf294
 t124:=Tryz.underlying281
 a124:=Tryz.isAgg281
 z124:=Tryz.sizeOf281
 v124:=Tryz.zeroValue281
 t138:=Tryz.underlying296
 a138:=Tryz.isAgg296
 z138:=Tryz.sizeOf296
 v138:=Tryz.zeroValue296
 t139:=Tryz.underlying297
 a139:=Tryz.isAgg297
 z139:=Tryz.sizeOf297
 v139:=Tryz.zeroValue297
 g3:=by kernel_rfl
 g4:=by kernel_rfl }
open Go.RowKit in
theorem Tryz.strings_TrimLeft_one (s:ByteArray) (c:UInt8) (hc:c.toNat < 128) (w:World) :
  Calls Tryz.prog 240 #[.string s,.string ⟨#[c]⟩] w fun e w'=>e = .returned (.string ⟨(Lib.trimLeftB s.data.toList c).toArray⟩)∧w'=w:=Any.strings_TrimLeft_one Tryz.lays161 s c hc w
def Tryz.lays126_ren:Go.Shelf.Ren:=⟨fun|126=>230|n=>n,fun|5=>5|3=>3|9=>9|n=>n,fun|n=>n⟩
theorem Tryz.lays126:Go.Proofs.Lays.n126 Tryz.prog Tryz.lays126_ren:={
 mixed:=by kernel_rfl
 f126:=Tryz.func230.trans (congrArg some (by kernel_rfl))
 t3:=Tryz.underlying3
 a3:=Tryz.isAgg3
 z3:=Tryz.sizeOf3
 v3:=Tryz.zeroValue3
 t5:=Tryz.underlying5
 a5:=Tryz.isAgg5
 z5:=Tryz.sizeOf5
 v5:=Tryz.zeroValue5
 t9:=Tryz.underlying9
 a9:=Tryz.isAgg9
 z9:=Tryz.sizeOf9
 v9:=Tryz.zeroValue9 }
theorem Tryz.bits_Len8 (x:Int) (w:World) (h0:0≤x) (h1:x≤255) :
  Calls Tryz.prog 230 #[.int .u8 x] w fun e w'=>e = .returned (.int .i64 (Lib.bitLen x.toNat))∧w'=w:=Any.bits_Len8 Tryz.lays126 x w h0 h1
def Tryz.lays133_ren:Go.Shelf.Ren:=⟨fun|133=>219|128=>211|n=>n,fun|51=>230|3=>3|4=>4|46=>201|5=>5|9=>9|n=>n,fun|n=>n⟩
theorem Tryz.lays133:Go.Proofs.Lays.n133 Tryz.prog Tryz.lays133_ren:={
 mixed:=by kernel_rfl
 f128:=Tryz.func211.trans (congrArg some (by kernel_rfl))
 f133:=Tryz.func219.trans (congrArg some (by kernel_rfl))
 t3:=Tryz.underlying3
 a3:=Tryz.isAgg3
 z3:=Tryz.sizeOf3
 v3:=Tryz.zeroValue3
 t4:=Tryz.underlying4
 a4:=Tryz.isAgg4
 z4:=Tryz.sizeOf4
 v4:=Tryz.zeroValue4
 t5:=Tryz.underlying5
 a5:=Tryz.isAgg5
 z5:=Tryz.sizeOf5
 v5:=Tryz.zeroValue5
 t9:=Tryz.underlying9
 a9:=Tryz.isAgg9
 z9:=Tryz.sizeOf9
 v9:=Tryz.zeroValue9
 t46:=Tryz.underlying201
 a46:=Tryz.isAgg201
 z46:=Tryz.sizeOf201
 v46:=Tryz.zeroValue201
 t51:=Tryz.underlying230
 a51:=Tryz.isAgg230
 z51:=Tryz.sizeOf230
 v51:=Tryz.zeroValue230 }
theorem Tryz.bits_LeadingZeros32 (x:Int) (w:World) (h0:0≤x) (h1:x≤4294967295) :
  Calls Tryz.prog 219 #[.int .u32 x] w fun e w'=>e = .returned (.int .i64 (32-(Lib.bitLen x.toNat:Int)))∧w'=w:=Any.bits_LeadingZeros32 Tryz.lays133 x w h0 h1
def Tryz.lays106_ren:Go.Shelf.Ren:=⟨fun|106=>214|213=>238|265=>251|n=>n,fun|9=>9|3=>3|n=>n,fun|n=>n⟩
theorem Tryz.lays106:Go.Proofs.Lays.n106 Tryz.prog Tryz.lays106_ren:={
 mixed:=by kernel_rfl
 f106:=Tryz.func214.trans (congrArg some (by kernel_rfl))
 f213:=Tryz.func238.trans (congrArg some (by kernel_rfl))
 f265:=Tryz.func251.trans (congrArg some (by kernel_rfl))
 t3:=Tryz.underlying3
 a3:=Tryz.isAgg3
 z3:=Tryz.sizeOf3
 v3:=Tryz.zeroValue3
 t9:=Tryz.underlying9
 a9:=Tryz.isAgg9
 z9:=Tryz.sizeOf9
 v9:=Tryz.zeroValue9 }
open Go.RowKit in
theorem Tryz.strings_Compare (a b:ByteArray) (w:World) :
  Calls Tryz.prog 214 #[.string a,.string b] w fun e w'=>e = .returned (.int .i64 (Lib.compareBytes a.data.toList b.data.toList))∧w'=w:=Any.strings_Compare Tryz.lays106 a b w
def Tryz.lays122_ren:Go.Shelf.Ren:=⟨fun|122=>184|215=>212|n=>n,fun|3=>3|4=>4|n=>n,fun|n=>n⟩
theorem Tryz.lays122:Go.Proofs.Lays.n122 Tryz.prog Tryz.lays122_ren:={
 mixed:=by kernel_rfl
 f122:=Tryz.func184.trans (congrArg some (by kernel_rfl))
 f215:=Tryz.func212.trans (congrArg some (by kernel_rfl))
 t3:=Tryz.underlying3
 a3:=Tryz.isAgg3
 z3:=Tryz.sizeOf3
 v3:=Tryz.zeroValue3
 t4:=Tryz.underlying4
 a4:=Tryz.isAgg4
 z4:=Tryz.sizeOf4
 v4:=Tryz.zeroValue4 }
open Go.RowKit in
theorem Tryz.cmp_Compare_int (x y:Int) (w:World) :
  Calls Tryz.prog 184 #[.int .i64 x,.int .i64 y] w fun e w'=>e = .returned (.int .i64 (Lib.compareInt x y))∧w'=w:=Any.cmp_Compare_int Tryz.lays122 x y w
def Tryz.lays129_ren:Go.Shelf.Ren:=⟨fun|129=>191|n=>n,fun|53=>175|3=>3|4=>4|46=>201|5=>5|9=>9|n=>n,fun|n=>n⟩
theorem Tryz.lays129:Go.Proofs.Lays.n129 Tryz.prog Tryz.lays129_ren:={
 mixed:=by kernel_rfl
 f129:=Tryz.func191.trans (congrArg some (by kernel_rfl))
 t3:=Tryz.underlying3
 a3:=Tryz.isAgg3
 z3:=Tryz.sizeOf3
 v3:=Tryz.zeroValue3
 t4:=Tryz.underlying4
 a4:=Tryz.isAgg4
 z4:=Tryz.sizeOf4
 v4:=Tryz.zeroValue4
 t5:=Tryz.underlying5
 a5:=Tryz.isAgg5
 z5:=Tryz.sizeOf5
 v5:=Tryz.zeroValue5
 t9:=Tryz.underlying9
 a9:=Tryz.isAgg9
 z9:=Tryz.sizeOf9
 v9:=Tryz.zeroValue9
 t46:=Tryz.underlying201
 a46:=Tryz.isAgg201
 z46:=Tryz.sizeOf201
 v46:=Tryz.zeroValue201
 t53:=Tryz.underlying175
 a53:=Tryz.isAgg175
 z53:=Tryz.sizeOf175
 v53:=Tryz.zeroValue175 }
theorem Tryz.bits_Len64 (x:Int) (w:World) (h0:0≤x) (h1:x≤18446744073709551615) :
  Calls Tryz.prog 191 #[.int .u64 x] w fun e w'=>e = .returned (.int .i64 (Lib.bitLen x.toNat))∧w'=w:=Any.bits_Len64 Tryz.lays129 x w h0 h1
def Tryz.lays264_ren:Go.Shelf.Ren:=⟨fun|264=>232|n=>n,fun|53=>175|46=>201|n=>n,fun|n=>n⟩
theorem Tryz.lays264:Go.Proofs.Lays.n264 Tryz.prog Tryz.lays264_ren:={
 mixed:=by kernel_rfl
 f264:=Tryz.func232.trans (congrArg some (by kernel_rfl))
 t46:=Tryz.underlying201
 a46:=Tryz.isAgg201
 z46:=Tryz.sizeOf201
 v46:=Tryz.zeroValue201
 t53:=Tryz.underlying175
 a53:=Tryz.isAgg175
 z53:=Tryz.sizeOf175
 v53:=Tryz.zeroValue175 }
open Go.RowKit Go.Lib in
theorem Tryz.bits_Mul64 (x y:Nat) (hx:x<18446744073709551616) (hy:y<18446744073709551616) (w:World) :
  Calls Tryz.prog 232 #[.int .u64 x,.int .u64 y] w fun e w'=>e = .returned (.tuple #[.int .u64 ((x*y / 18446744073709551616:Nat):Int),.int .u64 ((x*y % 18446744073709551616:Nat):Int)])∧w'=w:=Any.bits_Mul64 Tryz.lays264 x y hx hy w
def Tryz.lays105_ren:Go.Shelf.Ren:=⟨fun|105=>231|212=>244|99=>245|165=>246|166=>247|170=>248|169=>249|263=>257|264=>232|206=>258|240=>259|241=>260|276=>264|277=>265|n=>n,fun|9=>9|3=>3|4=>4|20=>20|0=>0|46=>201|109=>260|5=>5|72=>265|76=>269|51=>230|146=>283|53=>175|148=>241|70=>263|37=>211|75=>268|127=>285|164=>290|80=>239|n=>n,fun|n=>n⟩
theorem Tryz.lays105:Go.Proofs.Lays.n105 Tryz.prog Tryz.lays105_ren:={
 mixed:=by kernel_rfl
 f99:=Tryz.func245.trans (congrArg some (by kernel_rfl))
 f105:=Tryz.func231.trans (congrArg some (by kernel_rfl))
 f165:=Tryz.func246.trans (congrArg some (by kernel_rfl))
 f166:=Tryz.func247.trans (congrArg some (by kernel_rfl))
 f169:=Tryz.func249.trans (congrArg some (by kernel_rfl))
 f170:=Tryz.func248.trans (congrArg some (by kernel_rfl))
 f206:=Tryz.func258.trans (congrArg some (by kernel_rfl))
 f212:=Tryz.func244.trans (congrArg some (by kernel_rfl))
 f240:=Tryz.func259.trans (congrArg some (by kernel_rfl))
 f241:=Tryz.func260.trans (congrArg some (by kernel_rfl))
 f263:=Tryz.func257.trans (congrArg some (by kernel_rfl))
 f264:=Tryz.func232.trans (congrArg some (by kernel_rfl))
 f276:=Tryz.func264.trans (congrArg some (by kernel_rfl))
 f277:=Tryz.func265.trans (congrArg some (by kernel_rfl))
 t0:=Tryz.underlying0
 a0:=Tryz.isAgg0
 z0:=Tryz.sizeOf0
 v0:=Tryz.zeroValue0
 t3:=Tryz.underlying3
 a3:=Tryz.isAgg3
 z3:=Tryz.sizeOf3
 v3:=Tryz.zeroValue3
 t4:=Tryz.underlying4
 a4:=Tryz.isAgg4
 z4:=Tryz.sizeOf4
 v4:=Tryz.zeroValue4
 t5:=Tryz.underlying5
 a5:=Tryz.isAgg5
 z5:=Tryz.sizeOf5
 v5:=Tryz.zeroValue5
 t9:=Tryz.underlying9
 a9:=Tryz.isAgg9
 z9:=Tryz.sizeOf9
 v9:=Tryz.zeroValue9
 t20:=Tryz.underlying20
 a20:=Tryz.isAgg20
 z20:=Tryz.sizeOf20
 v20:=Tryz.zeroValue20
 t37:=Tryz.underlying211
 a37:=Tryz.isAgg211
 z37:=Tryz.sizeOf211
 v37:=Tryz.zeroValue211
 t46:=Tryz.underlying201
 a46:=Tryz.isAgg201
 z46:=Tryz.sizeOf201
 v46:=Tryz.zeroValue201
 t51:=Tryz.underlying230
 a51:=Tryz.isAgg230
 z51:=Tryz.sizeOf230
 v51:=Tryz.zeroValue230
 t53:=Tryz.underlying175
 a53:=Tryz.isAgg175
 z53:=Tryz.sizeOf175
 v53:=Tryz.zeroValue175
 t70:=Tryz.underlying263
 a70:=Tryz.isAgg263
 z70:=Tryz.sizeOf263
 v70:=Tryz.zeroValue263
 t72:=Tryz.underlying265
 a72:=Tryz.isAgg265
 z72:=Tryz.sizeOf265
 v72:=Tryz.zeroValue265
 t75:=Tryz.underlying268
 a75:=Tryz.isAgg268
 z75:=Tryz.sizeOf268
 v75:=Tryz.zeroValue268
 t76:=Tryz.underlying269
 a76:=Tryz.isAgg269
 z76:=Tryz.sizeOf269
 v76:=Tryz.zeroValue269
 t109:=Tryz.underlying260
 a109:=Tryz.isAgg260
 z109:=Tryz.sizeOf260
 v109:=Tryz.zeroValue260
 t127:=Tryz.underlying285
 a127:=Tryz.isAgg285
 z127:=Tryz.sizeOf285
 v127:=Tryz.zeroValue285
 t146:=Tryz.underlying283
 a146:=Tryz.isAgg283
 z146:=Tryz.sizeOf283
 v146:=Tryz.zeroValue283
 t148:=Tryz.underlying241
 a148:=Tryz.isAgg241
 z148:=Tryz.sizeOf241
 v148:=Tryz.zeroValue241
 t164:=Tryz.underlying290
 a164:=Tryz.isAgg290
 z164:=Tryz.sizeOf290
 v164:=Tryz.zeroValue290 }
theorem Tryz.Builder_Extra_105:Builder.Extra Tryz.prog Tryz.lays105_ren:={
 sizeBuilder:=by kernel_rfl
 liesBuilder:=by kernel_rfl
 t5:=Tryz.underlying5
 a5:=Tryz.isAgg5
 z5:=Tryz.sizeOf5
 v5:=Tryz.zeroValue5
 infoByte:=by kernel_rfl
 cellsByte:=by kernel_rfl
 sizeByte:=by kernel_rfl
 neB5:=by decide }
open Go.RowKit Go.Lib in
theorem Tryz.strings_Repeat (s:ByteArray) (c:Nat) (w:World) (hc:c≤9223372036854775807) (hlen:s.size*c≤140737488355328) :
  Calls Tryz.prog 231 #[.string s,.int .i64 c] w fun e w'=>e = .returned (.string ⟨(Lib.repeatL s.data.toList c).toArray⟩)∧Below w.heap.size w w':=Any.strings_Repeat Tryz.lays105 Tryz.Builder_Extra_105 s c w hc hlen
end
end Go.Proofs
namespace Go.Proofs.YtpgffjjpiafhpaaGreatDoor
open Go.RowKit
def RowR (w:World) (sv:Value) (xs:List Value):Prop :=
 (sv = .slice none 0 0∧xs=[])∨∃ g o c,sv = .slice (some ⟨g,o,none⟩) xs.length c∧g<w.heap.size∧∀ i v,xs[i]? = some v→w.cell? ⟨g,o+i,none⟩=some v
def rowF:Value→List Nat
 | .slice (some a) _ _=>[a.block]
 | _=>[]
theorem cell_same {w w':World} {a:Addr} (h:w'.heap[a.block]? = w.heap[a.block]?):w'.cell? a=w.cell? a:=by
 unfold World.cell?;rw [h]
theorem RowR.keep {w w':World} {sv:Value} {xs:List Value} {G:List Nat} (h:RowR w sv xs) (hk:Keep G w w') (hd:∀ x∈rowF sv,x ∉ G):RowR w' sv xs:=by
 rcases h with h|⟨g,o,c,rfl,hg,hc⟩
 ·exact .inl h
 refine .inr ⟨g,o,c,rfl,Nat.lt_of_lt_of_le hg hk.size,fun i v hi=>?_⟩;rw [cell_same (w:=w) (hk.block g hg (hd g (by simp [rowF])))];exact hc i v hi
theorem RowR.keep0 {w w':World} {sv:Value} {xs:List Value} (h:RowR w sv xs) (hk:Keep [] w w'):RowR w' sv xs:=h.keep hk (by simp)
theorem RowR.lt {w:World} {sv:Value} {xs:List Value} (h:RowR w sv xs):∀ x∈rowF sv,x<w.heap.size:=by
 rcases h with ⟨rfl,_⟩|⟨g,o,c,rfl,hg,hc⟩
 ·simp [rowF]
 simpa [rowF] using hg
theorem RowR.form {w:World} {sv:Value} {xs:List Value} (h:RowR w sv xs):∃ ao c,sv = .slice ao xs.length c:=by
 rcases h with ⟨rfl,rfl⟩|⟨g,o,c,rfl,hg,hc⟩
 ·exact ⟨_,_,rfl⟩
 exact ⟨_,_,rfl⟩
theorem RowR.elem {w:World} {sv:Value} {xs:List Value} (h:RowR w sv xs) (hn:0<xs.length):∃ g o c,sv = .slice (some ⟨g,o,none⟩) xs.length c∧∀ i v,xs[i]? = some v→w.cell? ⟨g,o+i,none⟩=some v:=by
 rcases h with ⟨rfl,rfl⟩|⟨g,o,c,rfl,hg,hc⟩
 ·simp at hn
 exact ⟨g,o,c,rfl,hc⟩
theorem RowR.of_own {w:World} {e:TypeId} {v:Value} {n:Nat} {xs:List Value} (h:w.ownsRow 0 e 1 v n xs):RowR w v xs:=by
 have hl:xs.length=n:=by have:=h.1;omega
 rcases h.2 with ⟨rfl,h0⟩|⟨g,cap,cur,rfl,hb,hgg,_⟩
 ·left;exact ⟨rfl,List.eq_nil_of_length_eq_zero (by omega)⟩
 right
 refine ⟨g,0,cap,by rw [hl],yaa hgg,fun i v hi=>?_⟩;have:=h.cells (g:=g) rfl i v hi;rwa [Addr.add_lit] at this
structure KW (w:World) where
 x:World
 k:Keep [] w x
def Wk (w:World) (n:KW w):World:=n.x
instance (w:World):Nonempty (KW w):=⟨⟨w,Keep.refl _ _⟩⟩
theorem yad {P:Program} {id:Nat} {Q:Exit→Act→World→Prop} {a:Act} {w:World} {l:List Oper} (hm:P.follows .mixedOrders=true) (hB:Region.lexB .any l.toArray=true)
  (h:wpQuiet P l.toArray (fun w'=>∃ n,w'=Wk w n) (fun a'=>∀ w',(∃ n,w'=Wk w n)→Q .normal a' w') l a):(Code.region id l.toArray true).wp P Q a w :=
 wp_region_quiet (C:=fun w'=>∃ n,w'=Wk w n) hm hB ⟨⟨w.drew,Keep.drew _ _⟩,rfl⟩ (by simpa using h)
theorem Keep.tz {a b c:World} (h:Keep [] a b) (k:Keep [] b c):Keep [] a c:=h.trans k (by simp)
section
variable {P:Program} {ops:Array Oper} {md:Region.Mode} {C:World→Prop}
def ycI (P:Program) (md:Region.Mode) (ops:Array Oper) (C:World→Prop) (n:Nat) (L:Array Bool→Act→Prop):Nat→Array Bool→Act→Prop
 | 0,listed,a=>L listed a
 | f+1,listed,a=>Region.ready md ops listed≠[]∧∀ i∈Region.ready md ops listed,i<n∧qOp P ops C i (ycI P md ops C n L f (listed.setIfInBounds i true)) a
theorem yfg {n g:Nat} {L:Array Bool→Act→Prop} {Q':Exit→Act→World→Prop} (hL:∀ listed a w,C w→L listed a→wpAny P md ops Q' g listed a w) :
  ∀ (f:Nat) (listed:Array Bool) (a:Act) (w:World),C w→ycI P md ops C n L f listed a→wpAny P md ops Q' (f+g) listed a w
 | 0,listed,a,w,hw,h=>by rw [Nat.zero_add];exact hL _ _ _ hw h
 | f+1,listed,a,w,hw,h=>by
  rw [show f+1+g=(f+g)+1 by omega]
  exact ⟨fun h0=>absurd h0 h.1,fun i hi=>wpOp_of_qOp hw (fun a' w' hw' h'=>yfg hL f _ a' w' hw' h') (h.2 i hi).2⟩
theorem ygc {n i:Nat} {oi:Oper} {v:Value} {L:Array Bool→Act→Prop} (hi:ops[i]? = some oi) (hsel:∀ (j:Nat) (o:Oper) cs b,ops[j]? = some o→o.op ≠ .select cs b)
  (hs:Region.sinkB md ops n=true) (hc:Region.chainB md ops n=true) (hn:n<ops.size) (hin:i<n)
  (hdone:∀ listed a,L listed a→∀ j∈Region.ready md ops listed,n≤j) :
  ∀ (f:Nat) (listed:Array Bool) (a:Act),HeadInv md ops n listed →
   (∀ j oj,ops[j]? = some oj→j≠i→listed.getD j true=false→(∀ e∈oj.after,Region.binds md e=true→e.on≠i)→oi.apart ops oj=true) →
   i∈Region.ready md ops listed→YieldsIn P ops C oi v a →
   ycI P md ops C n L f (listed.setIfInBounds i true) (a.put oi.dst v)→ycI P md ops C n L (f+1) listed a:=by
 intro f;induction f with
 | zero =>
  intro listed a inv _ hr hy H;refine ⟨fun h=>(by rw [h] at hr;cases hr),fun j hj=>?_⟩
  have hjn:j<n:=by
   rcases Nat.lt_or_ge j n with h|h
   ·exact h
   exact absurd hj (tail_waits hs hc hn inv _ i rfl hin (mem_ready.1 hr).1 j h)
  refine ⟨hjn,?_⟩;by_cases hji:j=i
  ·subst hji;exact hy.qOp hi H
  have:=hdone _ _ H j (ready_mono hj hji);omega
 | succ f ih =>
  intro listed a inv hfree hr hy H;have hun:=(mem_ready.1 hr).1;refine ⟨fun h=>(by rw [h] at hr;cases hr),fun j hj=>?_⟩
  have hjn:j<n:=by
   rcases Nat.lt_or_ge j n with h|h
   ·exact h
   exact absurd hj (tail_waits hs hc hn inv _ i rfl hin hun j h)
  refine ⟨hjn,?_⟩;by_cases hji:j=i
  ·subst hji;exact hy.qOp hi H
  have h1:=(H.2 j (ready_mono hj hji)).2;obtain⟨hjun,oj,hoj,hall⟩:=mem_ready.1 hj
  have hnot:∀ e∈oj.after,Region.binds md e=true→e.on≠i:=fun e he hb heq=>by
   have h1:=hall e he hb;rw [heq,getD_both hun] at h1;cases h1
  have h2:=qOp_put hoj (hfree j oj hoj hji hjun hnot) (fun cs b=>hsel i oi cs b hi) (fun cs b=>hsel j oj cs b hoj) hy h1
  have hfree' : ∀ k ok, ops[k]? = some ok → k ≠ i → (listed.setIfInBounds j true).getD k true = false →
    (∀ e∈ok.after,Region.binds md e=true→e.on≠i)→oi.apart ops ok=true:=fun k ok hk hki hun hno=>by
   refine hfree k ok hk hki ?_ hno;by_cases hjk:j=k
   ·subst hjk;exact hjun
   rw [getD_set_ne true hjk] at hun;exact hun
  refine qOp_mono (fun a' h3=>ih (listed.setIfInBounds j true) a' (inv.set hj hjn) hfree' (ready_mono hr (Ne.symm hji)) h3.1 ?_) h2;rw [Array.setIfInBounds_comm _ _ hji];exact h3.2
theorem ydA {n g:Nat} {Lq:Act→Prop} (hsel:Region.noSelect ops=true) (hs:Region.sinkB md ops n=true) (hc:Region.chainB md ops n=true) (hn:n<ops.size) :
  ∀ (l:List Oper) (k:Nat) (listed:Array Bool) (a:Act),(∀ j,j<l.length→l[j]? = ops[k+j]?)→k+l.length=n→HeadInv md ops n listed →
  Region.lexHead md ops g l.length k listed=true→wpQuiet P ops C Lq l a →
  ycI P md ops C n (fun listed' a'=>Region.seqB md ops g n listed'=true∧Lq a') l.length listed a
 | [],k,listed,a,_,hk,_,hB,h=>by
  have:k=n:=by simpa using hk
  subst this;exact ⟨by simpa [Region.lexHead] using hB,h⟩
 | o :: l,k,listed,a,hl,hk,inv,hB,h=>by
  have h0:ops[k]? = some o:=by simpa using (hl 0 (by simp)).symm
  simp only [List.length_cons,Region.lexHead,Bool.and_eq_true] at hB;obtain⟨⟨hr,hf⟩,hB'⟩:=hB;have hkn:k<n:=by simp only [List.length_cons] at hk;omega
  have hr':k∈Region.ready md ops listed:=by simpa using hr
  have hst:qOp P ops C k (wpQuiet P ops C Lq l) a:=by unfold qOp;simp only [h0];exact h
  obtain⟨v,hy,hK⟩:=yieldsIn_of_qOp h0 hst
  exact ygc h0 (Region.noSelect_spec hsel) hs hc hn hkn (fun listed' a' hL=>seqB_ready hL.1) l.length listed a inv (Region.free_spec h0 hf) hr' hy
   (ydA hsel hs hc hn l (k+1) _ _ (fun j hj=>by have:=hl (j+1) (by simp;omega);simpa [Nat.add_assoc,Nat.add_comm 1 j] using this) (by simp only [List.length_cons] at hk;omega) (inv.set hr' hkn) hB' hK)
theorem ydj {id:Nat} {Q:Exit→Act→World→Prop} {a:Act} {w:World} {l:List Oper} (n:Nat) (hm:P.follows .mixedOrders=true) (hB:Region.lexTailB .any l.toArray n=true) (hC:C { w with drawn:=w.drawn+1 })
  (h:wpQuiet P l.toArray C (fun a'=>∀ w',C w'→wpList P l.toArray Q (l.drop n) a' w') (l.take n) a):(Code.region id l.toArray true).wp P Q a w:=by
 simp only [Region.lexTailB,Bool.and_eq_true,decide_eq_true_eq] at hB;obtain⟨⟨⟨⟨hsel,hn⟩,hs⟩,hc⟩,hlex⟩:=hB;have hn':n<l.length:=by simpa using hn
 have htl:(l.take n).length=n:=by simp;omega
 have hdl:(l.drop n).length=l.toArray.size-n:=by simp
 have inv0:HeadInv .any l.toArray n (Array.replicate l.toArray.size false) :=
  ⟨by simp,fun j oj _ hl=>(by rw [getD_replicate_false] at hl;cases hl),fun t _ ht=>getD_in (by simpa using ht) (getD_replicate_false _ _)⟩
 have H:=ydA (md:=.any) (g:=l.toArray.size-n) hsel hs hc hn (l.take n) 0 _ a (fun j hj=>by
  have hj':j<n:=by rw [htl] at hj;exact hj
  simp [hj']) (by simpa using htl) inv0 (by rw [htl];exact hlex) h
 refine wp_region_any hm ?_
 have:=yfg (Q':=Q) (g:=l.toArray.size-n) (fun listed a' w' hw' hL=>by
  have:=wpAny_of_seq (md:=.any) (Q':=Q) (l.drop n) n listed a' w' (fun j=>by simp [List.getElem?_drop]) (by rw [hdl];exact hL.1) (hL.2 w' hw')
  rwa [hdl] at this) _ _ _ _ hC H
 rw [htl,show n+(l.toArray.size-n)=l.toArray.size by omega] at this
 exact this
end
theorem yai {P:Program} {id:Nat} {Q:Exit→Act→World→Prop} {a:Act} {w:World} {l:List Oper} (n:Nat) (hm:P.follows .mixedOrders=true) (hB:Region.lexTailB .any l.toArray n=true)
  (h:wpQuiet P l.toArray (fun w'=>∃ n,w'=Wk w n) (fun a'=>∀ w',(∃ n,w'=Wk w n)→wpList P l.toArray Q (l.drop n) a' w') (l.take n) a):(Code.region id l.toArray true).wp P Q a w :=
 ydj (C:=fun w'=>∃ n,w'=Wk w n) n hm hB ⟨⟨w.drew,Keep.drew _ _⟩,rfl⟩ h
section
variable {P:Program} {ops:Array Oper} {md:Region.Mode} {S:World→Prop} {Q:Exit→Act→World→Prop}
def yeV (P:Program) (md:Region.Mode) (ops:Array Oper) (Q:Exit→Act→World→Prop) (S:World→Prop) (n:Nat) (L:Array Bool→Act→World→Prop):Nat→Array Bool→Act→World→Prop
 | 0,listed,a,w=>L listed a w
 | f+1,listed,a,w=>Region.ready md ops listed≠[]∧∀ i∈Region.ready md ops listed,i<n∧wpOp P ops Q i (fun a' w'=>S w'∧yeV P md ops Q S n L f (listed.setIfInBounds i true) a' w') a w
theorem yfb {n g:Nat} {L:Array Bool→Act→World→Prop} (hL:∀ listed a w,L listed a w→wpAny P md ops Q g listed a w) :
  ∀ (f:Nat) (listed:Array Bool) (a:Act) (w:World),yeV P md ops Q S n L f listed a w→wpAny P md ops Q (f+g) listed a w
 | 0,listed,a,w,h=>by rw [Nat.zero_add];exact hL _ _ _ h
 | f+1,listed,a,w,h=>by
  rw [show f+1+g=(f+g)+1 by omega]
  exact ⟨fun h0=>absurd h0 h.1,fun i hi=>wpOp_mono (fun a' w' h'=>yfb hL f _ a' w' h'.2) (h.2 i hi).2⟩
theorem yfN {n i:Nat} {oi:Oper} {v:Value} {L:Array Bool→Act→World→Prop} (hi:ops[i]? = some oi) (hsel:∀ (j:Nat) (o:Oper) cs b,ops[j]? = some o→o.op ≠ .select cs b)
  (hQ:∀ c a w,Q (.panic c) (a.put oi.dst v) w→Q (.panic c) a w)
  (hs:Region.sinkB md ops n=true) (hc:Region.chainB md ops n=true) (hn:n<ops.size) (hin:i<n)
  (hdone:∀ listed a w,L listed a w→∀ j∈Region.ready md ops listed,n≤j) :
  ∀ (f:Nat) (listed:Array Bool) (a:Act) (w:World),HeadInv md ops n listed →
   (∀ j oj,ops[j]? = some oj→j≠i→listed.getD j true=false→(∀ e∈oj.after,Region.binds md e=true→e.on≠i)→oi.apart ops oj=true) →
   i∈Region.ready md ops listed→YieldsIf P ops S oi v a→S w →
   yeV P md ops Q S n L f (listed.setIfInBounds i true) (a.put oi.dst v) w→yeV P md ops Q S n L (f+1) listed a w:=by
 intro f;induction f with
 | zero =>
  intro listed a w inv _ hr hy hS H;refine ⟨fun h=>(by rw [h] at hr;cases hr),fun j hj=>?_⟩
  have hjn:j<n:=by
   rcases Nat.lt_or_ge j n with h|h
   ·exact h
   exact absurd hj (tail_waits hs hc hn inv _ i rfl hin (mem_ready.1 hr).1 j h)
  refine ⟨hjn,?_⟩;by_cases hji:j=i
  ·subst hji;exact hy.wpOp hi hS ⟨hS,H⟩
  have:=hdone _ _ _ H j (ready_mono hj hji);omega
 | succ f ih =>
  intro listed a w inv hfree hr hy hS H;have hun:=(mem_ready.1 hr).1;refine ⟨fun h=>(by rw [h] at hr;cases hr),fun j hj=>?_⟩
  have hjn:j<n:=by
   rcases Nat.lt_or_ge j n with h|h
   ·exact h
   exact absurd hj (tail_waits hs hc hn inv _ i rfl hin hun j h)
  refine ⟨hjn,?_⟩;by_cases hji:j=i
  ·subst hji;exact hy.wpOp hi hS ⟨hS,H⟩
  have h1:=(H.2 j (ready_mono hj hji)).2;obtain⟨hjun,oj,hoj,hall⟩:=mem_ready.1 hj
  have hnot:∀ e∈oj.after,Region.binds md e=true→e.on≠i:=fun e he hb heq=>by
   have h1:=hall e he hb;rw [heq,getD_both hun] at h1;cases h1
  have h2:=wpOp_putIf hoj (hfree j oj hoj hji hjun hnot) (fun cs b=>hsel i oi cs b hi) (fun cs b=>hsel j oj cs b hoj) hQ hy h1
  have hfree' : ∀ k ok, ops[k]? = some ok → k ≠ i → (listed.setIfInBounds j true).getD k true = false →
    (∀ e∈ok.after,Region.binds md e=true→e.on≠i)→oi.apart ops ok=true:=fun k ok hk hki hun hno=>by
   refine hfree k ok hk hki ?_ hno;by_cases hjk:j=k
   ·subst hjk;exact hjun
   rw [getD_set_ne true hjk] at hun;exact hun
  refine wpOp_mono (fun a' w' h3=>⟨h3.2.1,ih (listed.setIfInBounds j true) a' w' (inv.set hj hjn) hfree' (ready_mono hr (Ne.symm hji)) h3.1 h3.2.1 ?_⟩) h2;rw [Array.setIfInBounds_comm _ _ hji];exact h3.2.2
end
section
variable {P:Program} {ops:Array Oper} {md:Region.Mode} {S:World→Prop} {Q:Exit→Act→World→Prop}
def yav (P:Program) (md:Region.Mode) (ops:Array Oper) (Q:Exit→Act→World→Prop) (S:World→Prop) (n:Nat) (L:Array Bool→Act→World→Prop):Nat→Array Bool→Act→World→Prop
 | 0,listed,a,w=>L listed a w
 | f+1,listed,a,w =>
  (∃ i o v,ops[i]? = some o∧i<n∧Region.free md ops listed i=true∧(Region.ready md ops listed).contains i=true∧YieldsIf P ops S o v a∧S w∧yav P md ops Q S n L f (listed.setIfInBounds i true) (a.put o.dst v) w) ∨
  (Region.ready md ops listed≠[]∧∀ i∈Region.ready md ops listed,i<n∧wpOp P ops Q i (fun a' w'=>S w'∧yav P md ops Q S n L f (listed.setIfInBounds i true) a' w') a w)
theorem yfc {n:Nat} {L:Array Bool→Act→World→Prop} (hsel:Region.noSelect ops=true) (hQ:∀ c a d v w,Q (.panic c) (Act.put a d v) w→Q (.panic c) a w)
  (hs:Region.sinkB md ops n=true) (hc:Region.chainB md ops n=true) (hn:n<ops.size) (hdone:∀ listed a w,L listed a w→∀ j∈Region.ready md ops listed,n≤j) :
  ∀ (f:Nat) (listed:Array Bool) (a:Act) (w:World),HeadInv md ops n listed→yav P md ops Q S n L f listed a w→yeV P md ops Q S n L f listed a w
 | 0,_,_,_,_,h=>h
 | f+1,listed,a,w,inv,h=>by
  rcases h with ⟨i,o,v,ho,hi,hf,hr,hy,hS,hrest⟩|⟨hne,hall⟩
  ·have hr':i∈Region.ready md ops listed:=by simpa using hr
   exact yfN ho (Region.noSelect_spec hsel) (fun c a w h=>hQ c _ _ _ w h) hs hc hn hi hdone f listed a w inv (Region.free_spec ho hf) hr' hy hS
    (yfc hsel hQ hs hc hn hdone f _ _ _ (inv.set hr' hi) hrest)
  exact ⟨hne,fun i hi=>⟨(hall i hi).1,wpOp_mono (fun a' w' h'=>⟨h'.1,yfc hsel hQ hs hc hn hdone f _ _ _ (inv.set hi (hall i hi).1) h'.2⟩) (hall i hi).2⟩⟩
theorem yah {id:Nat} {a:Act} {w:World} {l:List Oper} (n:Nat) (hm:P.follows .mixedOrders=true)
  (hB:(Region.noSelect l.toArray&&decide (n<l.toArray.size)&&Region.sinkB .any l.toArray n&&Region.chainB .any l.toArray n)=true)
  (hQ:∀ c a d v w,Q (.panic c) (Act.put a d v) w→Q (.panic c) a w)
  (h:yav P .any l.toArray Q S n (fun listed' a' w'=>Region.seqB .any l.toArray (l.toArray.size-n) n listed'=true∧wpList P l.toArray Q (l.drop n) a' w') n (Array.replicate l.toArray.size false) a w.drew):(Code.region id l.toArray true).wp P Q a w:=by
 simp only [Bool.and_eq_true,decide_eq_true_eq] at hB;obtain⟨⟨⟨hsel,hn⟩,hs⟩,hc⟩:=hB;have hdl:(l.drop n).length=l.toArray.size-n:=by simp
 have inv0:HeadInv .any l.toArray n (Array.replicate l.toArray.size false) :=
  ⟨by simp,fun j oj _ hl=>(by rw [getD_replicate_false] at hl;cases hl),fun t _ ht=>getD_in (by simpa using ht) (getD_replicate_false _ _)⟩
 have H:=yfc hsel hQ hs hc hn (fun listed a w hL=>seqB_ready hL.1) n _ a _ inv0 h;refine wp_region_any hm ?_
 have:=yfb (Q:=Q) (g:=l.toArray.size-n) (fun listed a' w' hL=>by
  have:=wpAny_of_seq (md:=.any) (Q':=Q) (l.drop n) n listed a' w' (fun j=>by simp [List.getElem?_drop]) (by rw [hdl];exact hL.1) hL.2
  rwa [hdl] at this) _ _ _ _ H
 rw [show n+(l.toArray.size-n)=l.toArray.size by omega] at this
 exact this
theorem yhh {n f:Nat} {L:Array Bool→Act→World→Prop} {listed:Array Bool} {a:Act} {w:World} (i:Nat) {o:Oper} {v:Value} (ho:ops[i]? = some o) (hi:i<n) (hf:Region.free md ops listed i=true) (hr:(Region.ready md ops listed).contains i=true)
  (hg:o.guard=none) (hS:S w) (h1:∀ w,S w→(execOp a.eval o).run P w = .ok (.value v) w)
  (h2:∀ K:Act→Prop,(∀ a,yav P md ops Q S n L f (listed.setIfInBounds i true) a w→K a)→K (a.put o.dst v)):yav P md ops Q S n L (f+1) listed a w :=
 .inl ⟨i,o,v,ho,hi,hf,hr,.inl ⟨by simp [Region.wanted,hg],h1⟩,hS,h2 _ (fun _ h=>h)⟩
theorem jV {n f:Nat} {L:Array Bool→Act→World→Prop} {listed:Array Bool} {a:Act} {w:World} (i:Nat) {o:Oper} {v:Value} (hS:S w) (h1:∀ w,S w→(execOp a.eval o).run P w = .ok (.value v) w) (h2:∀ K:Act→Prop,(∀ a,yav P md ops Q S n L f (listed.setIfInBounds i true) a w→K a)→K (a.put o.dst v)) (ho:ops[i]? = some o:=by rfl) (hi:i<n:=by decide) (hf:Region.free md ops listed i=true:=by kernel_rfl) (hr:(Region.ready md ops listed).contains i=true:=by kernel_rfl) (hg:o.guard=none:=by rfl):yav P md ops Q S n L (f+1) listed a w :=
 yhh i ho hi hf hr hg hS h1 h2
theorem heldT_one {n f:Nat} {L:Array Bool→Act→World→Prop} {listed:Array Bool} {a:Act} {w:World} (i:Nat) {o:Oper} (hr:Region.ready md ops listed=[i]) (hi:i<n) (ho:ops[i]? = some o) (hg:o.guard=none)
  (h:∀ K:Act→World→Prop,(∀ a w,S w→yav P md ops Q S n L f (listed.setIfInBounds i true) a w→K a w)→o.wp P a w K Q):yav P md ops Q S n L (f+1) listed a w:=by
 refine .inr ⟨by rw [hr];simp,fun j hj=>?_⟩;rw [hr] at hj;obtain rfl:j=i:=by simpa using hj
 refine ⟨hi,?_⟩;unfold wpOp;simp only [ho];rw [if_pos (by simp [Region.wanted,hg])];exact .inl (h _ (fun _ _ h1 h2=>⟨h1,h2⟩))
theorem jO {n f:Nat} {L:Array Bool→Act→World→Prop} {listed:Array Bool} {a:Act} {w:World} (i:Nat) {o:Oper} (h:∀ K:Act→World→Prop,(∀ a w,S w→yav P md ops Q S n L f (listed.setIfInBounds i true) a w→K a w)→o.wp P a w K Q) (hr:Region.ready md ops listed=[i]:=by kernel_rfl) (hi:i<n:=by decide) (ho:ops[i]? = some o:=by rfl) (hg:o.guard=none:=by rfl):yav P md ops Q S n L (f+1) listed a w :=
 heldT_one i hr hi ho hg h
theorem yak {n f:Nat} {L:Array Bool→Act→World→Prop} {listed:Array Bool} {a:Act} {w:World} (i j:Nat) {o u:Oper} (hr:Region.ready md ops listed=[i,j]) (hi:i<n) (hj:j<n) (ho:ops[i]? = some o) (hu:ops[j]? = some u) (hg:o.guard=none) (hgu:u.guard=none)
  (h:∀ K:Act→World→Prop,(∀ a w,S w→yav P md ops Q S n L f (listed.setIfInBounds i true) a w→K a w)→o.wp P a w K Q)
  (h':∀ K:Act→World→Prop,(∀ a w,S w→yav P md ops Q S n L f (listed.setIfInBounds j true) a w→K a w)→u.wp P a w K Q):yav P md ops Q S n L (f+1) listed a w:=by
 refine .inr ⟨by rw [hr];simp,fun k hk=>?_⟩;rw [hr] at hk;simp only [List.mem_cons,List.not_mem_nil,or_false] at hk;rcases hk with rfl|rfl
 ·refine ⟨hi,?_⟩
  unfold wpOp;simp only [ho];rw [if_pos (by simp [Region.wanted,hg])];exact .inl (h _ (fun _ _ h1 h2=>⟨h1,h2⟩))
 refine ⟨hj,?_⟩;unfold wpOp;simp only [hu];rw [if_pos (by simp [Region.wanted,hgu])];exact .inl (h' _ (fun _ _ h1 h2=>⟨h1,h2⟩))
end
section
variable {P:Program} {ops:Array Oper} {md:Region.Mode} {C S:World→Prop}
variable {Q:Exit→Act→World→Prop}
theorem yaF {n f:Nat} {L:Array Bool→Act→World→Prop} {listed:Array Bool} {a:Act} {w:World} (i:Nat) {o:Oper} {v:Value} (ho:ops[i]? = some o) (hi:i<n) (hf:Region.free md ops listed i=true) (hr:(Region.ready md ops listed).contains i=true)
  (hg:Region.wanted o (yielded ops a.tmps)=true) (hS:S w) (h1:∀ w,S w→(execOp a.eval o).run P w = .ok (.value v) w)
  (h2:∀ K:Act→Prop,(∀ a,yav P md ops Q S n L f (listed.setIfInBounds i true) a w→K a)→K (a.put o.dst v)):yav P md ops Q S n L (f+1) listed a w :=
 .inl ⟨i,o,v,ho,hi,hf,hr,.inl ⟨hg,h1⟩,hS,h2 _ (fun _ h=>h)⟩
theorem jG {n f:Nat} {L:Array Bool→Act→World→Prop} {listed:Array Bool} {a:Act} {w:World} (i:Nat) {o:Oper} {v:Value} (hS:S w) (h1:∀ w,S w→(execOp a.eval o).run P w = .ok (.value v) w) (h2:∀ K:Act→Prop,(∀ a,yav P md ops Q S n L f (listed.setIfInBounds i true) a w→K a)→K (a.put o.dst v)) (ho:ops[i]? = some o:=by rfl) (hi:i<n:=by decide) (hf:Region.free md ops listed i=true:=by kernel_rfl) (hr:(Region.ready md ops listed).contains i=true:=by kernel_rfl) (hg:Region.wanted o (yielded ops a.tmps)=true:=by rfl):yav P md ops Q S n L (f+1) listed a w :=
 yaF i ho hi hf hr hg hS h1 h2
theorem ydf {n f:Nat} {L:Array Bool→Act→World→Prop} {listed:Array Bool} {a:Act} {w:World} (i:Nat) {o:Oper} (hr:Region.ready md ops listed=[i]) (hi:i<n) (ho:ops[i]? = some o) (hg:Region.wanted o (yielded ops a.tmps)=true)
  (h:∀ K:Act→World→Prop,(∀ a w,S w→yav P md ops Q S n L f (listed.setIfInBounds i true) a w→K a w)→o.wp P a w K Q):yav P md ops Q S n L (f+1) listed a w:=by
 refine .inr ⟨by rw [hr];simp,fun j hj=>?_⟩;rw [hr] at hj;obtain rfl:j=i:=by simpa using hj
 refine ⟨hi,?_⟩;unfold wpOp;simp only [ho];rw [if_pos hg];exact .inl (h _ (fun _ _ h1 h2=>⟨h1,h2⟩))
theorem jP {n f:Nat} {L:Array Bool→Act→World→Prop} {listed:Array Bool} {a:Act} {w:World} (i:Nat) {o:Oper} (h:∀ K:Act→World→Prop,(∀ a w,S w→yav P md ops Q S n L f (listed.setIfInBounds i true) a w→K a w)→o.wp P a w K Q) (hr:Region.ready md ops listed=[i]:=by kernel_rfl) (hi:i<n:=by decide) (ho:ops[i]? = some o:=by rfl) (hg:Region.wanted o (yielded ops a.tmps)=true:=by rfl):yav P md ops Q S n L (f+1) listed a w :=
 ydf i hr hi ho hg h
end
end Go.Proofs.YtpgffjjpiafhpaaGreatDoor
