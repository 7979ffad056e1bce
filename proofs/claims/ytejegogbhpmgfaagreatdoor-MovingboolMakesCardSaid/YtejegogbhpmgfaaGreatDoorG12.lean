/- Parts of a proof: Ri Ss Ua Sy. -/
import Derived.Deep.LoopGhost
import Derived.Shelf.SlSortCmp.WholeK
import Derived.Great.BuildSlice
import Derived.Test.YtejegogbhpmgfaaGreatDoorG09
import Derived.Test.YtejegogbhpmgfaaGreatDoorG11
set_option linter.unusedVariables false
set_option linter.unusedSimpArgs false
set_option maxRecDepth 100000
set_option maxHeartbeats 8000000
namespace Go.Proofs.YtejegogbhpmgfaaGreatDoor
open Go.RowKit Tryz
def ints (l:List Nat):List Value:=l.map fun (d:Nat)=>.int .i64 (d:Int)
theorem ybi (l:List Nat):(ints l).length=l.length:=by simp [ints]
theorem yga (l:List Nat) (i:Nat) (h:i<l.length):(ints l)[i]? = some (.int .i64 ((l[i]:Nat):Int)):=by simp [ints,h]
theorem ints_snoc (l:List Nat) (d:Nat):ints l++[.int .i64 (d:Int)]=ints (l++[d]):=by simp [ints]
theorem yay {w w':World} {e:TypeId} {size:Nat} {v:Value} {n:Nat} {xs:List Value} {F:List Nat} (h:w.ownsRow 0 e size v n xs) (hk:Keep F w w') (hF:∀ g,v.ownBlock=some g→g ∉ F):w'.ownsRow 0 e size v n xs:=by
 refine ⟨h.1,?_⟩;rcases h.2 with hn|⟨g,cap,cur,hv,hb,hg,rest⟩
 ·exact .inl hn
 exact .inr ⟨g,cap,cur,hv,hb,hk.heap hg (hF g (by rw [hv];rfl)),rest⟩
theorem yet {w:World} {e:TypeId} {size:Nat} {v:Value} {n:Nat} {xs:List Value} (h:w.ownsRow 0 e size v n xs):∃ po pc,v = .slice po n pc:=by
 rcases h.2 with ⟨hv,h0⟩|⟨g,cap,cur,hv,_⟩
 ·exact ⟨none,0,by rw [hv,h0]⟩
 exact ⟨_,cap,hv⟩
theorem yaR (w:World) (v:Value) (t:TypeId):∀ (j:Nat) (u:Value),[v][j]? = some u→(w.alloc (.cells #[v] t)).cell? ((⟨w.heap.size,0,none⟩:Addr).add j)=some u:=by
 intro j u hj
 match j,hj with
 | 0,hj=>simp at hj;subst hj;simp [Addr.add,go_sem]
structure OI (w0 w:World) (v:Value) (l:List Nat):Prop where
 row:w.ownsRow 0 3 1 v l.length (ints l)
 base:∀ g,v.ownBlock=some g→w0.heap.size≤g
 keep:Keep [] w0 w
theorem OI.nil (w:World):OI w w (.slice none 0 0) []:=⟨⟨rfl,.inl ⟨rfl,rfl⟩⟩,by simp [Value.ownBlock],Keep.refl _ _⟩
theorem OI.later {w0 w w':World} {v:Value} {l:List Nat} (h:OI w0 w v l) (hk:Keep [] w w'):OI w0 w' v l :=
 ⟨yay h.row hk (by simp),h.base,h.keep.tz hk⟩
theorem OI.form {w0 w:World} {v:Value} {l:List Nat} (h:OI w0 w v l):∃ po pc,v = .slice po l.length pc:=yet h.row
theorem OI.read {w0 w:World} {v:Value} {l:List Nat} (h:OI w0 w v l):RowR w v (ints l):=by
 exact RowR.of_own h.row
theorem OI.step {w0 wr wa:World} {v:Value} {l:List Nat} (h:OI w0 wr v l) {g cap d:Nat} {t:TypeId} (hoa:wa.ownsRow 0 3 1 (.slice (some ⟨g,0,none⟩) (l.length+1) cap) (l.length+1) (ints l++[.int .i64 (d:Int)]))
  (hga:(wr.alloc (.cells #[.int .i64 (d:Int)] t)).grownBy wa v.ownBlock) (hfa:some g=v.ownBlock∨wr.heap.size+1≤g) (hda:(wr.alloc (.cells #[.int .i64 (d:Int)] t)).drawn≤wa.drawn) :
  OI w0 wa (.slice (some ⟨g,0,none⟩) (l.length+1) cap) (l++[d]):=by
 refine ⟨?_,?_,?_⟩
 ·rw [← ints_snoc,List.length_append];exact hoa
 ·intro k hk
  simp [Value.ownBlock] at hk;subst hk;rcases hfa with h1|h1
  ·exact h.base _ h1.symm
  have:=h.keep.size;omega
 exact (h.keep.aP _).grownPast hga hda (fun k hk=>h.base k hk)
theorem infoInt:(prog.info? 3).map (fun i=>(i.zero,i.size,i.bytes))=some (some (.int .i64 0),1,8):=by kernel_rfl
def CapOk (v:Value):Prop:=∀ a n c,v = .slice a n c→n≤c
theorem OI.cap {w0 w:World} {v:Value} {l:List Nat} (h:OI w0 w v l):CapOk v:=by
 intro a n c e;rcases h.row.2 with ⟨hv,_⟩|⟨g,cap,cur,hv,_,_,hc,_⟩
 ·rw [hv] at e;injection e with _ e2 e3;omega
 rw [hv] at e;injection e with _ e2 e3;omega
def DR (w:World) (v:Value) (N:Nat):Prop:=RowR w v (ints (digs 256 N))∧CapOk v
theorem DR.later {w w':World} {v:Value} {N:Nat} (h:DR w v N) (hk:Keep [] w w'):DR w' v N:=⟨h.1.keep0 hk,h.2⟩
def Trimmed (w:World) (l:List Nat) (e:Ending):Prop:=∃ v,e = .returned v∧RowR w v (ints (trimD l))∧CapOk v
theorem ydb {w:World} {l:List Nat} {g o c m:Nat} (hm:m≤l.length) (hc:l.length≤c) (ht:trimD l=l.take m) (hg:g<w.heap.size) (h:∀ i u,(ints l)[i]? = some u→w.cell? ⟨g,o+i,none⟩=some u) :
  Trimmed w l (.returned (.slice (some ⟨g,o,none⟩) m c)):=by
 have hlen:(ints (trimD l)).length=m:=by rw [ybi,ht,List.length_take,Nat.min_eq_left hm]
 refine ⟨_,rfl,.inr ⟨g,o,c,by rw [hlen],hg,fun i u hi=>h i u ?_⟩,fun a n c' e=>?_⟩
 ·have hlt:i<(ints (trimD l)).length:=(List.getElem?_eq_some_iff.1 hi).1
  rw [hlen] at hlt;rw [ht] at hi;have:ints (l.take m)=(ints l).take m:=by simp [ints,List.map_take]
  rw [this,List.getElem?_take_of_lt hlt] at hi;exact hi
 injection e with _ e2 e3;omega
theorem ydl (w:World) (sv:Value) (l:List Nat) (hl9:l.length≤1000000000000) (h:RowR w sv (ints l)) (hcap:CapOk sv) :
  Calls prog 171 #[sv] w fun e w'=>Trimmed w l e∧w'=w:=by
 rcases h with ⟨rfl,h0⟩|⟨g,o,c,rfl,hg,hc⟩
 ·have h1:l=[]:=by simpa [ints] using h0
  subst h1;go_enter func171,ntmps171
  go_wp2_with fail;go_rounds 1
  go_wp2_with fail;go_ret
  exact ⟨⟨_,rfl,.inl ⟨rfl,rfl⟩,fun a n c e=>by injection e with _ e2 e3;omega⟩,rfl⟩
 rw [ybi] at hcap ⊢;have hlc:l.length≤c:=hcap _ _ _ rfl;have Hc:=jX hc;clear hc hcap;go_enter func171,ntmps171
 go_wp2_with fail;go_loop [3] (fun x=>∃ m:Nat,m≤l.length∧x = .int .i64 (m:Int)∧trimD (l.take m)=trimD l) (fun x=>(intOf x).toNat)
 case atStart=>exact ⟨l.length,Nat.le_refl _,rfl,by rw [List.take_length]⟩
 case round =>
  obtain⟨m,hm,rfl,ht⟩:=hrel;have Ht:=jX ht;clear ht
  match m,hm,Ht with
  | 0,hm,Ht =>
   have hT:=jX (ydb (c:=c) hm hlc Ht.out.symm hg Hc.out);go_wp2_with fail;go_ret
   exact ⟨hT.out,rfl⟩
  | k+1,hm,Ht =>
   have hcell:=Hc.out k _ (yga l k (by omega));have hi:(((k+1:Nat):Int)-1).toNat=k:=by omega
   by_cases hz:l[k]=0
   ·have hstep:=ybQ l k (by omega) hz
    rw [hz] at hcell;have Hstep:=jX (hstep.symm.trans Ht.out);clear hstep hz;go_wp2_with fail;go_round
    case rel=>exact ⟨k,by omega,congrArg (Value.int .i64) (by omega),Hstep.out⟩
    case measure=>simp [intOf]
   have hstep:=ycr l k (by omega) hz;have hT:=jX (ydb (c:=c) hm hlc (Ht.out.symm.trans hstep) hg Hc.out);have hne:(((l[k]:Nat):Int) == 0)=false:=by rw [beq_eq_false_iff_ne];omega
   generalize l[k]=d at *;clear hstep hz;go_wp2_with fail;go_ret
   exact ⟨hT.out,rfl⟩
theorem yai {P:Program} {C:World→Prop} {o:Oper} {a:Act} {K:Act→Prop} (t:TypeId) (x:Operand) (ad:Addr) (v:Value) (ho:o.op = .load t x) (hx:a.eval x = .pointer (some ad)) (h:∀ w,C w→(loadVar t ad).run P w = .ok v w) (hk:K (a.put o.dst v)):o.quiet P a C K :=
 ⟨v,fun w hw=>by
  unfold Oper.quietAt execOp;simp only [ho,hx,Instr.loadAt,Instr.sureAddr,Sem.run_bind,Sem.run_pure,Result.andThen_ok,h w hw]
  exact ⟨rfl,rfl⟩,hk⟩
theorem IvAt.ld {w:World} {b o:Nat} {i:Iv K} (h:IvAt w b o i) (hb:b<w.heap.size):∀ m:KW w,(loadVar 49 ⟨b,o,none⟩).run prog (Wk w m) = .ok (iv i) (Wk w m) :=
 fun m=>ybH _ _ _ _ (h.keep (m.k.block b hb (by simp)))
theorem KAt.keep' {w w':World} {b o:Nat} {x:Qn} (h:KAt w b o x) (hb:w'.heap[b]? = w.heap[b]?):KAt w' b o x:=fun k v hk=>by
 rw [World.cell?_of_block hb];exact h k v hk
theorem KAt.ld {w:World} {b o:Nat} {x:K} (h:KAt w b o x.1) (hb:b<w.heap.size):∀ m:KW w,(loadVar 36 ⟨b,o,none⟩).run prog (Wk w m) = .ok (kv x) (Wk w m) :=
 fun m=>yat _ _ _ _ (h.keep' (m.k.block b hb (by simp)))
theorem KAt.keep {w w':World} {b o:Nat} {x:Qn} (h:KAt w b o x) (hb:w'.heap[b]? = w.heap[b]?):KAt w' b o x:=fun k v hk=>by
 rw [World.cell?_of_block hb];exact h k v hk
section
variable {α:Type} (enc:α→List Value)
def RowE (w:World) (sv:Value) (l:List α):Prop :=
 (sv = .slice none 0 0∧l=[])∨∃ g o c,sv = .slice (some ⟨g,o,none⟩) l.length c∧l.length≤c∧g<w.heap.size∧∀ i v,(l.flatMap enc)[i]? = some v→w.cell? ⟨g,o+i,none⟩=some v
theorem ybz {k:Nat} (hk:∀ x,(enc x).length=k) (l:List α):(l.flatMap enc).length=l.length*k:=by
 induction l with
 | nil=>simp
 | cons x l ih=>rw [List.flatMap_cons,List.length_append,hk,ih,List.length_cons,Nat.add_mul];omega
theorem ydw {k:Nat} (hk:∀ x,(enc x).length=k) (l:List α):∀ (i j:Nat) (hi:i<l.length),j<k→(l.flatMap enc)[i*k+j]? = (enc l[i])[j]?:=by
 induction l with
 | nil=>intro i j hi;simp at hi
 | cons x l ih =>
  intro i j hi hj;rw [List.flatMap_cons];cases i with
  | zero =>
   rw [Nat.zero_mul,Nat.zero_add,List.getElem?_append_left (by rw [hk];exact hj)];rfl
  | succ i =>
   rw [List.getElem?_append_right (by rw [hk,Nat.add_mul];omega),hk,show (i+1)*k+j-k=i*k+j by rw [Nat.add_mul];omega,ih i j (by simp at hi;omega) hj]
   rfl
variable {enc}
theorem RowE.later {w w':World} {sv:Value} {l:List α} (h:RowE enc w sv l) (hk:Keep [] w w'):RowE enc w' sv l:=by
 rcases h with h|⟨g,o,c,rfl,hc,hg,hx⟩
 ·exact .inl h
 refine .inr ⟨g,o,c,rfl,hc,Nat.lt_of_lt_of_le hg hk.size,fun i v hv=>?_⟩;rw [World.cell?_of_block (hk.block g hg (by simp))];exact hx i v hv
theorem RowE.form {w:World} {sv:Value} {l:List α} (h:RowE enc w sv l):∃ a c,sv = .slice a l.length c∧l.length≤c:=by
 rcases h with ⟨rfl,rfl⟩|⟨g,o,c,rfl,hc,_⟩
 ·exact ⟨_,_,rfl,by simp⟩
 exact ⟨_,_,rfl,hc⟩
theorem RowE.elem {w:World} {a:Option Addr} {n c k:Nat} {l:List α} (hk:∀ x,(enc x).length=k) (h:RowE enc w (.slice a n c) l) (i:Nat) (hi:i<l.length) :
  ∃ g o,a=some ⟨g,o,none⟩∧g<w.heap.size∧∀ j v,(enc l[i])[j]? = some v→w.cell? ⟨g,o+i*k+j,none⟩=some v:=by
 rcases h with ⟨_,rfl⟩|⟨g,o,c,e,hc,hg,hx⟩
 ·simp at hi
 injection e with e1 e2 e3;refine ⟨g,o,e1,hg,fun j v hv=>?_⟩;have hj:j<k:=by have:=(List.getElem?_eq_some_iff.1 hv).1;rwa [hk] at this
 rw [Nat.add_assoc];exact hx _ _ (by rw [ydw enc hk l i j hi hj];exact hv)
theorem RowE.nil (w:World):RowE enc w (.slice none 0 0) []:=.inl ⟨rfl,rfl⟩
structure OE (enc:α→List Value) (e:TypeId) (k:Nat) (w0 w:World) (v:Value) (l:List α):Prop where
 row:w.ownsRow 0 e k v l.length (l.flatMap enc)
 base:∀ g,v.ownBlock=some g→w0.heap.size≤g
 keep:Keep [] w0 w
theorem OE.nil {e:TypeId} {k:Nat} (w:World):OE enc e k w w (.slice none 0 0) []:=⟨⟨by simp,.inl ⟨rfl,rfl⟩⟩,by simp [Value.ownBlock],Keep.refl _ _⟩
theorem OE.later {e:TypeId} {k:Nat} {w0 w w':World} {v:Value} {l:List α} (h:OE enc e k w0 w v l) (hk:Keep [] w w'):OE enc e k w0 w' v l :=
 ⟨yay h.row hk (by simp),h.base,h.keep.tz hk⟩
theorem OE.form {e:TypeId} {k:Nat} {w0 w:World} {v:Value} {l:List α} (h:OE enc e k w0 w v l):∃ po pc,v = .slice po l.length pc:=yet h.row
theorem OE.read {e:TypeId} {k:Nat} {w0 w:World} {v:Value} {l:List α} (h:OE enc e k w0 w v l):RowE enc w v l:=by
 rcases h.row.2 with ⟨hv,hn⟩|⟨g,cap,cur,hv,hb,hg,hnc,hcm,hcs,htake⟩
 ·exact .inl ⟨hv,List.eq_nil_of_length_eq_zero hn⟩
 have hx:=World.ownsRow.cells (g:=g) h.row (by rw [hv];rfl);refine .inr ⟨g,0,cap,hv,hnc,yab hg,fun i v hi=>?_⟩;have:=hx i v hi;rwa [Addr.add_lit] at this
end
abbrev IvR:=RowE (fun i:Iv K=>icells i)
abbrev KR:=RowE (fun x:K=>kcells x.1)
theorem IvR.elem {w:World} {a:Option Addr} {n c:Nat} {l:List (Iv K)} (h:IvR w (.slice a n c) l) (i:Nat) (hi:i<l.length):∃ g o,a=some ⟨g,o,none⟩∧g<w.heap.size∧IvAt w g (o+i*20) l[i]:=RowE.elem ycY h i hi
theorem KR.elem {w:World} {a:Option Addr} {n c:Nat} {l:List K} (h:KR w (.slice a n c) l) (i:Nat) (hi:i<l.length):∃ g o,a=some ⟨g,o,none⟩∧g<w.heap.size∧KAt w g (o+i*9) l[i].1:=RowE.elem (fun x=>yav x.1) h i hi
theorem kw_k {w:World} {g:Nat} {x:K} {t:TypeId} (h:w.heap[g]? = some (.cells (kC x) t)):∀ m:KW w,(loadVar 36 ⟨g,0,none⟩).run prog (Wk w m) = .ok (kv x) (Wk w m) :=
 fun m=>yat _ _ _ _ (ycz (m.k.heap h (by simp)))
theorem IvAt.ldf {w:World} {b o:Nat} {i:Iv K} (h:IvAt w b o i) (hb:b<w.heap.size):∀ m:KW w,(loadVar 36 ⟨b,o,none⟩).run prog (Wk w m) = .ok (kv i.f.pt) (Wk w m) :=
 fun m=>yat _ _ _ _ (h.keep (m.k.block b hb (by simp))).frm
theorem IvAt.ldt {w:World} {b o:Nat} {i:Iv K} (h:IvAt w b o i) (hb:b<w.heap.size):∀ m:KW w,(loadVar 36 ⟨b,o+9,none⟩).run prog (Wk w m) = .ok (kv i.l.pt) (Wk w m) :=
 fun m=>yat _ _ _ _ (h.keep (m.k.block b hb (by simp))).upto
section
open Go.RowKit Go.Sort Go.Shelf
section
variable {P:Program} {ρ:Ren} {α:Type} [Inhabited α] {enc:α→List Value} {k:Nat}
theorem yeT (hk:∀ x,(enc x).length=k) {w:World} {g o n c:Nat} {l:List α} (h:RowE enc w (.slice (some ⟨g,o,none⟩) n c) l) (hf:∀ j,w.frozen? ⟨g,o+j,none⟩=false):HoldsK enc k w g o l.toArray:=by
 intro t ht;rw [size_flatK] at ht;have ht':t<l.length*k:=by simpa using ht
 refine ⟨?_,hf t⟩;have hk0:0<k:=Nat.pos_of_ne_zero (by rintro rfl;simp at ht');have hi:t / k<l.length:=Nat.div_lt_of_lt_mul (by rw [Nat.mul_comm];exact ht');have hj:t % k<k:=Nat.mod_lt _ hk0;rcases h with ⟨h,_⟩|⟨g',o',c',e,hc,hg,hx⟩
 ·cases h
 injection e with e1 e2 e3;injection e1 with e1;injection e1 with e1 e4;subst e1 e4;rw [get_flatK _ _ _ _ ht];refine hx t _ ?_;have h1:=ydw enc hk l (t / k) (t % k) hi hj;rw [Nat.div_add_mod' t k] at h1;have hj2:t % k<(enc l[t / k]).length:=by rw [hk];exact hj
 rw [h1,List.getElem?_eq_getElem hj2];have e2:l.toArray[t / k]! = l[t / k]:=by rw [getElem!_pos l.toArray (t / k) (by simpa using hi)];simp
 rw [e2,getElem!_pos (enc l[t / k]) (t % k) hj2];rfl
theorem yeR (hk:∀ x,(enc x).length=k) {w:World} {g o c:Nat} {d:Array α} (h:HoldsK enc k w g o d) (hg:g<w.heap.size) (hc:d.size≤c):RowE enc w (.slice (some ⟨g,o,none⟩) d.size c) d.toList:=by
 refine .inr ⟨g,o,c,by rw [Array.length_toList],by rw [Array.length_toList];exact hc,hg,fun t v hv=>?_⟩
 have ht:t<d.size*k:=by
  have:=(List.getElem?_eq_some_iff.1 hv).1;rw [ybz enc hk,Array.length_toList] at this;exact this
 have hk0:0<k:=Nat.pos_of_ne_zero (by rintro rfl;simp at ht);have hi:t / k<d.size:=Nat.div_lt_of_lt_mul (by rw [Nat.mul_comm];exact ht);have hj:t % k<k:=Nat.mod_lt _ hk0;have h1:=ydw enc hk d.toList (t / k) (t % k) (by simpa using hi) hj;rw [Nat.div_add_mod' t k,hv] at h1;have h2:=(h.cell hi hj).1;rw [Nat.add_assoc,Nat.div_add_mod' t k] at h2;rw [h2];have hj2:t % k<(enc d[t / k]).length:=by rw [hk];exact hj
 have e2:d[t / k]! = d[t / k]:=getElem!_pos d (t / k) hi;rw [e2,getElem!_pos (enc d[t / k]) (t % k) hj2];rw [Array.getElem_toList,List.getElem?_eq_getElem hj2] at h1;exact h1.symm
theorem yce (w:World) (g o n:Nat) (d:Array α) (os:Array Obj):Keep [g] w (sortWorldK enc k w g o n d os):=by
 refine ⟨rfl,rfl,rfl,?_,?_,?_⟩
 ·unfold sortWorldK grow putRowK
  simp [Go.Sort.ahead]
 ·unfold sortWorldK grow putRowK
  simp [Go.Sort.ahead]
 intro j hj hn;have hne:¬ g=j:=fun e=>hn (by simp [e]);unfold sortWorldK grow putRowK putRow mapBlock Go.Sort.ahead;dsimp only;rw [Array.getElem?_append_left (by simpa using hj),Array.getElem?_modify,if_neg hne]
theorem sort_row (L:SlLaysF0.n6 P ρ) (hk0:0<k) (aE:∀ w,(isAgg (ρ.t 24)).run P w = .ok true w) (zE:∀ w,(Go.sizeOf (ρ.t 24)).run P w = .ok k w) (hk:∀ x,(enc x).length=k) (h1:∀ x,∀ v∈enc x,v.oneCell'=true) (cf:α→α→Int) (hO:SWO (ltOf cf)) (g:Nat)
  (eg:∀ args w,(callFunc g args).run P w = .ok (.enter g args) w) (hcmp:∀ x y w,Calls P g #[.agg (enc x).toArray,.agg (enc y).toArray] w fun e w'=>e = .returned (.int .i64 (cf x y))∧Keep [] w w')
  {w:World} {b o n c:Nat} {l:List α} (h:RowE enc w (.slice (some ⟨b,o,none⟩) n c) l) (hf:∀ j,w.frozen? ⟨b,o+j,none⟩=false) (hsz:l.length<4611686018427387904) :
  Calls P (ρ.f 6) #[.slice (some ⟨b,o,none⟩) n c,.func (.func g) #[] #[]] w fun e w' =>
   e = .returned (.tuple #[])∧∃ l',l'.Perm l∧l'.Pairwise (fun x y=>ltOf cf y x=false)∧RowE enc w' (.slice (some ⟨b,o,none⟩) n c) l'∧Keep [b] w w':=by
 have hH:=yeT hk h hf
 have hn:n=l.length∧n≤c∧b<w.heap.size:=by
  rcases h with ⟨h,_⟩|⟨g',o',c',e,hc,hg,hx⟩
  ·cases h
  injection e with e1 e2 e3;injection e1 with e1;injection e1 with e1 e4;subst e1 e2 e3;exact ⟨rfl,hc,hg⟩
 obtain⟨rfl,hnc,hb⟩:=hn
 have hcl:CmpLays P g #[] enc k cf b o l.toArray.size w:=fun m os dk _ x y=>by
  have:=hcmp x y (sortWorldK enc k w b o m dk os);exact this.mono fun e w' ⟨he,hkk⟩=>⟨he,hkk.regrown⟩
 have:=AnyQ.slices_SortFunc L k aE zE enc hk h1 cf hO g #[] b o c l.toArray w eg hcl hH hb (by simpa using hsz);rw [List.size_toArray] at this;refine this.mono ?_;rintro e w' ⟨he,d',m,os,⟨hp1,_,hp2⟩,hs,rfl⟩;have hp1:d'.size=l.length:=by simpa using hp1
 have hp:d'.toList.Perm l:=by
  have e1:d'.extract 0 l.length=d':=by rw [← hp1,Array.extract_size]
  have e2:l.toArray.extract 0 l.length=l.toArray:=by rw [← List.size_toArray,Array.extract_size]
  rw [e1,e2] at hp2
  simpa using hp2
 refine ⟨he,d'.toList,hp,?_,?_,yce _ _ _ _ _ _⟩
 ·rw [List.pairwise_iff_getElem]
  intro i j hi hj hij;simp only [Array.length_toList] at hi hj;have:=hs i j (Nat.zero_le _) hij (by rw [← hp1];exact hj);rw [getElem!_pos d' j hj,getElem!_pos d' i hi] at this
  simpa using this
 have hh:HoldsK enc k (sortWorldK enc k w b o m d' os) b o d':=by
  unfold sortWorldK;exact holdsK_grow enc k _ os b o d' (by unfold putRowK;simpa [Go.Sort.ahead] using hb) (holdsK_putRowK enc k _ b o l.toArray d' (holdsK_ahead enc k w m b o _ hH) (by simpa using hp1))
 have:=yeR hk (c:=c) hh (Nat.lt_of_lt_of_le hb (yce (enc:=enc) (k:=k) w b o m d' os).size) (by omega);rw [hp1] at this;exact this
end
end
section
variable {P:Program}
theorem yaF {o:Oper} {a:Act} {w:World} {K:Act→World→Prop} {Q:Exit→Act→World→Prop} (v:Value) (w':World) (h:(execOp a.eval o).run P w = .ok (.value v) w') (hk:K (a.put o.dst v) w'):o.wp P a w K Q:=by
 unfold Oper.wp;rw [h];exact hk
theorem yak {o:Oper} {ev:Operand→Value} {w:World} (t:TypeId) (x:Operand) (ad:Addr) (v:Value) (ho:o.op = .load t x) (hx:ev x = .pointer (some ad)) (h:(loadVar t ad).run P w = .ok v w):(execOp ev o).run P w = .ok (.value v) w:=by
 unfold execOp;simp only [ho,hx,Instr.loadAt,Instr.sureAddr,Sem.run_bind,Sem.run_pure,Result.andThen_ok,h]
theorem yaE {o:Oper} {ev:Operand→Value} {w w':World} (t:TypeId) (n:Nat) (parts:Array (Nat × Operand)) (parts':Array (Nat × Value)) (v:Value) (ho:o.op = .buildSlice t n parts) (hp:(parts.map fun (i,x)=>(i,ev x))=parts') (h:(Instr.buildSlice t n parts').run P w = .ok v w'):(execOp ev o).run P w = .ok (.value v) w':=by
 unfold execOp;simp only [ho,hp,Sem.run_bind,Sem.run_pure,Result.andThen_ok,h]
theorem yas {o:Oper} {ev:Operand→Value} {w w':World} (s x:Operand) (t:TypeId) (vs vx v:Value) (ho:o.op = .call { callee:=.builtin .append,args:=#[s,x],argTypes:=#[t,t] }) (hs:ev s=vs) (hx:ev x=vx)
  (h:(Builtin.append_ #[t,t] o.type #[vs,vx]).run P w = .ok v w'):(execOp ev o).run P w = .ok (.value v) w':=by
 unfold execOp;simp only [ho,resolve,invoke,builtin,Sem.run_bind,Sem.run_pure,Result.andThen_ok,List.map_toArray,List.map_cons,List.map_nil,hs,hx,h]
variable {α:Type} {enc:α→List Value} {e:TypeId} {k:Nat}
theorem OE.empty (w:World):OE enc e k w (w.alloc (.cells #[] e)) (.slice (some ⟨w.heap.size,0,none⟩) 0 0) []:=by
 refine ⟨⟨by simp,.inr ⟨w.heap.size,0,#[],rfl,Nat.zero_le _,World.alloc_heap_new w _,Nat.le_refl _,by simp,by simp,by simp⟩⟩,?_,Keep.alloc [] w _⟩;intro g hg;simp [Value.ownBlock] at hg;omega
theorem OE.app {t ty:TypeId} {i:TypeInfo} {z:Value} {bytes:Nat} (ht:P.underlying t=some (.slice e)) (hi:P.info? e=some i) (hz:i.zero=some z) (hsize:i.size=k) (hby:i.bytes=bytes) (hzs:z.cells.size=k) (hk0:0<k)
  (henc:∀ x,(enc x).length=k) (hone:∀ x,∀ v∈enc x,v.oneCell'=true) {w0 w:World} {v y:Value} {l m:List α} (h:OE enc e k w0 w v l) (hv:v.ownBlock≠none∨0<m.length) (hy:RowE enc w y m)
  (h63:l.length+m.length≤maxLen) (hbytes:(l.length+m.length)*bytes≤140737488355328) :
  ∃ v' w',(Builtin.append_ #[t,t] ty #[v,y]).run P w = .ok v' w'∧OE enc e k w0 w' v' (l++m)∧v'.ownBlock≠none∧∀ F,(∀ g,v.ownBlock=some g→g∈F)→Keep F w w':=by
 rcases hy with ⟨rfl,rfl⟩|⟨g,b,c,rfl,hc,hg,hx⟩
 ·have hvn : v.ownBlock ≠ none := by
   rcases hv with hv|hv
   ·exact hv
   simp at hv
  exact ⟨v,w,run_append_owned_none (P:=P) (w:=w) 0 t ty e i k ht hi v _ _ h.row,by simpa using h,hvn,fun F _=>Keep.refl F w⟩
 have hl:=ybz enc henc m;have hnews:∀ j u,(m.flatMap enc)[j]? = some u→w.cell? ((⟨g,b,none⟩:Addr).add j)=some u:=fun j u hj=>by rw [Addr.add_lit];exact hx j u hj
 have h1:∀ u∈m.flatMap enc,u.oneCell'=true:=fun u hu=>by
  obtain⟨x,_,hxu⟩:=List.mem_flatMap.1 hu;exact hone x u hxu
 obtain⟨v',w',hr,ho,hgr,_⟩:=run_append_own (P:=P) w 0 t ty e i z k bytes ht hi hz hsize hby hzs hk0 v _ _ h.row ⟨g,b,none⟩ m.length c _ hl hnews h1 h63 hbytes (Nat.zero_le _)
 have fin : ∀ g' cap, (Builtin.append_ #[t, t] ty #[v, .slice (some ⟨g, b, none⟩) m.length c]).run P w = .ok (.slice (some ⟨g', 0, none⟩) (l.length + m.length) cap) w' → (some g' = v.ownBlock ∨ w.heap.size ≤ g') → w.drawn ≤ w'.drawn →
   ∃ v' w',(Builtin.append_ #[t,t] ty #[v,.slice (some ⟨g,b,none⟩) m.length c]).run P w = .ok v' w'∧OE enc e k w0 w' v' (l++m)∧v'.ownBlock≠none∧∀ F,(∀ g,v.ownBlock=some g→g∈F)→Keep F w w':=by
  intro g' cap h2 h3 h4;have h5:=h2;rw [hr] at h5;injection h5 with h5 _;subst h5;refine ⟨_,w',hr,⟨?_,?_,?_⟩,by simp [Value.ownBlock],fun F hF=>Keep.grown hgr h4 hF⟩
  ·rw [List.flatMap_append,List.length_append];exact ho
  ·intro x hx
   simp [Value.ownBlock] at hx;subst hx;rcases h3 with h3|h3
   ·exact h.base _ h3.symm
   exact Nat.le_trans h.keep.size h3
  exact h.keep.grownPast hgr h4 (fun x hx=>h.base x hx)
 rcases h.row.2 with ⟨rfl,hl0⟩|⟨g0,cap,cur,rfl,hb0,hgg,hnc,hcm,hcs,htake⟩
 ·have hm : 0 < m.length := by
   rcases hv with hv|hv
   ·exact absurd rfl hv
   exact hv
  have h2:=run_append_nil (P:=P) w t ty e i z ht hi hz ⟨g,b,none⟩ m.length c _ (by rw [hl,hsize]) hnews hm (by simp only [maxLen] at h63;omega) (by rw [hby];have hb:=hbytes;simp only [hl0,Nat.zero_add] at hb;omega);have hw:=h2;rw [hr] at hw;injection hw with _ hw;rw [← hw] at h2;refine fin w.heap.size _ (by rw [h2,hl0,Nat.zero_add]) (.inr (Nat.le_refl _)) (by rw [hw];exact Nat.le_succ _)
 subst hsize;by_cases hroom:l.length+m.length≤cap
 ·have hfit:l.length*i.size+(m.flatMap enc).length≤cur.size:=by rw [hl,hcs,← Nat.add_mul];exact Nat.mul_le_mul_right _ hroom
  have h2:=run_append_room (P:=P) w t ty e i ht hi g0 l.length cap cur hgg ⟨g,b,none⟩ m.length c _ hl hnews h1 hroom hfit
  have hw:w'=w.setRow g0 (cur.toList.take (l.length*i.size)++m.flatMap enc++cur.toList.drop (l.length*i.size+(m.flatMap enc).length)).toArray:=by
   rw [hr] at h2;injection h2
  rw [← hw] at h2;exact fin g0 cap h2 (.inl rfl) (by rw [hw];exact Nat.le_refl _)
 have holds:∀ j u,(l.flatMap enc)[j]? = some u→w.cell? ((⟨g0,0,none⟩:Addr).add j)=some u:=h.row.cells (g:=g0) rfl;have h2:=run_append_grow (P:=P) w t ty e i z ht hi hz ⟨g0,0,none⟩ l.length cap _ h.row.1 holds ⟨g,b,none⟩ m.length c _ hl hnews (by omega) (by simp only [maxLen] at h63;omega) (growslice_fits (by omega) (by rw [hby];exact hbytes));have hw:=h2;rw [hr] at hw;injection hw with _ hw;rw [← hw] at h2;exact fin _ _ h2 (.inr (Nat.le_refl _)) (by rw [hw];exact Nat.le_succ _)
end
theorem RowE.keepF {α:Type} {enc:α→List Value} {w w':World} {g o n c:Nat} {l:List α} {F:List Nat} (h:RowE enc w (.slice (some ⟨g,o,none⟩) n c) l) (hk:Keep F w w') (hg:g ∉ F):RowE enc w' (.slice (some ⟨g,o,none⟩) n c) l:=by
 rcases h with ⟨h,_⟩|⟨g',o',c',e,hc,hg',hx⟩
 ·cases h
 have hgg:g'=g:=by injection e with e1;injection e1 with e1;injection e1 with e1;exact e1.symm
 refine .inr ⟨g',o',c',e,hc,Nat.lt_of_lt_of_le hg' hk.size,fun i v hv=>?_⟩;rw [World.cell?_of_block (hk.block g' hg' (by rw [hgg];exact hg))];exact hx i v hv
theorem RowE.take {α:Type} {enc:α→List Value} {k:Nat} (hk:∀ x,(enc x).length=k) {w:World} {g o n c:Nat} {l:List α} (h:RowE enc w (.slice (some ⟨g,o,none⟩) n c) l) (i:Nat) (hi:i≤l.length):RowE enc w (.slice (some ⟨g,o,none⟩) i c) (l.take i):=by
 rcases h with ⟨h,_⟩|⟨g',o',c',e,hc,hg,hx⟩
 ·cases h
 injection e with e1 e2 e3;injection e1 with e1;injection e1 with e1 e4;subst e1 e4 e3;refine .inr ⟨g,o,c,by rw [List.length_take,Nat.min_eq_left hi],by rw [List.length_take];omega,hg,fun j v hj=>hx j v ?_⟩;have hs:l.flatMap enc=(l.take i).flatMap enc++(l.drop i).flatMap enc:=by rw [← List.flatMap_append,List.take_append_drop]
 rw [hs,List.getElem?_append_left (List.getElem?_eq_some_iff.1 hj).1];exact hj
theorem RowE.drop {α:Type} {enc:α→List Value} {k:Nat} (hk:∀ x,(enc x).length=k) {w:World} {g o n c:Nat} {l:List α} (h:RowE enc w (.slice (some ⟨g,o,none⟩) n c) l) (i:Nat) (hi:i≤l.length):RowE enc w (.slice (some ⟨g,o+i*k,none⟩) (l.length-i) (c-i)) (l.drop i):=by
 rcases h with ⟨h,_⟩|⟨g',o',c',e,hc,hg,hx⟩
 ·cases h
 injection e with e1 e2 e3;injection e1 with e1;injection e1 with e1 e4;subst e1 e4 e3;refine .inr ⟨g,o+i*k,c-i,by rw [List.length_drop],by rw [List.length_drop];omega,hg,fun j v hj=>?_⟩;have hs:l.flatMap enc=(l.take i).flatMap enc++(l.drop i).flatMap enc:=by rw [← List.flatMap_append,List.take_append_drop]
 have hlen:((l.take i).flatMap enc).length=i*k:=by rw [ybz enc hk,List.length_take,Nat.min_eq_left hi]
 rw [Nat.add_assoc];refine hx _ v ?_;rw [hs,List.getElem?_append_right (by rw [hlen];omega),hlen,Nat.add_sub_cancel_left];exact hj
theorem infoRealB:(prog.info? 36).map (fun i=>(i.zero.map Value.cells,i.size,i.bytes))=some (some #[.bool false,.string ⟨#[]⟩,.bool false,.string ⟨#[]⟩,.bool false,.string ⟨#[]⟩,.bool false,.string ⟨#[]⟩,.bool false],9,104):=by kernel_rfl
theorem real_info:∃ i z,prog.info? 36=some i∧i.zero=some z∧i.size=9∧i.bytes=104∧z.cells = #[.bool false,.string ⟨#[]⟩,.bool false,.string ⟨#[]⟩,.bool false,.string ⟨#[]⟩,.bool false,.string ⟨#[]⟩,.bool false]:=by
 have h:=infoRealB;cases hi:prog.info? 36 with
 | none=>rw [hi] at h;cases h
 | some i =>
  rw [hi] at h;simp only [Option.map_some,Option.some.injEq,Prod.mk.injEq] at h;obtain⟨h1,h2,h3⟩:=h;cases hz:i.zero with
  | none=>rw [hz] at h1;cases h1
  | some z =>
   rw [hz] at h1;injection h1 with h1;exact ⟨i,z,rfl,hz,h2,h3,h1⟩
theorem fill_k (b1 b4 b7:Bool) (s2 s3 s5 s6:ByteArray):Instr.fill (fun i=>some (i*9,9)) ((Array.range (1*9)).map ((#[.bool false,.string ⟨#[]⟩,.bool false,.string ⟨#[]⟩,.bool false,.string ⟨#[]⟩,.bool false,.string ⟨#[]⟩,.bool false]:Array Value)[· % (#[.bool false,.string ⟨#[]⟩,.bool false,.string ⟨#[]⟩,.bool false,.string ⟨#[]⟩,.bool false,.string ⟨#[]⟩,.bool false]:Array Value).size]!))
  #[(0, Value.agg #[.bool b1, .string s2, .bool false, .string s3, .bool b4, .string s5, .bool false, .string s6, .bool b7])].toList = some #[.bool b1, .string s2, .bool false, .string s3, .bool b4, .string s5, .bool false, .string s6, .bool b7] := by kernel_rfl
theorem ycZ (x:K) (w:World):(Instr.buildSlice 56 1 #[(0,kv x)]).run prog w = .ok (.slice (some ⟨w.heap.size,0,none⟩) 1 1) (w.alloc (.cells (kC x) 36)):=by
 obtain⟨i,z,hi,hz,hs,hb,hzc⟩:=real_info;refine run_buildSlice (P:=prog) w 56 36 1 _ _ i z underlying56 hi hz (by rw [hs];decide) (by rw [hs];decide) ?_;rw [hs,hzc,yaI];exact fill_k _ _ _ _ _ _ _
theorem yen (w:World):(Instr.buildSlice 56 0 #[]).run prog w = .ok (.slice (some ⟨w.heap.size,0,none⟩) 0 0) (w.alloc (.cells #[] 36)):=by
 go_simp
abbrev OK_:=OE (fun x:K=>kcells x.1) 36 9
theorem KR.app' {ty:TypeId} {w0 w:World} {v y:Value} {l m:List K} (h:OK_ w0 w v l) (hv:v.ownBlock≠none∨0<m.length) (hy:KR w y m) (hb:l.length+m.length≤1000000000) :
  ∃ v' w',(Builtin.append_ #[56,56] ty #[v,y]).run prog w = .ok v' w'∧OK_ w0 w' v' (l++m)∧v'.ownBlock≠none∧∀ F,(∀ g,v.ownBlock=some g→g∈F)→Keep F w w':=by
 obtain⟨i,z,hi,hz,hs,hbt,hzc⟩:=real_info;exact OE.app (P:=prog) (bytes:=104) underlying56 hi hz hs hbt (by rw [hzc];rfl) (by decide) (fun (x:K)=>yav x.1) (fun (x:K)=>yaS x.1) h hv hy (by unfold maxLen;omega) (by omega)
theorem KR.app {ty:TypeId} {w0 w:World} {v y:Value} {l m:List K} (h:OK_ w0 w v l) (hv:v.ownBlock≠none) (hy:KR w y m) (hb:l.length+m.length≤1000000000) :
  ∃ v' w',(Builtin.append_ #[56,56] ty #[v,y]).run prog w = .ok v' w'∧OK_ w0 w' v' (l++m)∧v'.ownBlock≠none∧∀ F,(∀ g,v.ownBlock=some g→g∈F)→Keep F w w':=KR.app' h (.inl hv) hy hb
theorem OK_.start (w:World):∃ u g,w.alloc (.cells #[] 36)=u∧w.heap.size=g∧u.heap.size=g+1∧OK_ w u (.slice (some ⟨g,0,none⟩) 0 0) []:=⟨_,_,rfl,rfl,by simp,OE.empty w⟩
theorem KR.one (x:K) (w:World):KR (w.alloc (.cells (kC x) 36)) (.slice (some ⟨w.heap.size,0,none⟩) 1 1) [x]:=by
 refine .inr ⟨w.heap.size,0,1,rfl,Nat.le_refl _,by simp,fun i v hv=>?_⟩;have h:=ycz (World.alloc_heap_new w (.cells (kC x) 36)) i v (by simpa using hv);exact h
theorem KR.single (x:K) (w:World):∃ u g,w.alloc (.cells (kC x) 36)=u∧w.heap.size=g∧u.heap.size=g+1∧Keep [] w u∧KR u (.slice (some ⟨g,0,none⟩) 1 1) [x]:=⟨_,_,rfl,rfl,by simp,Keep.alloc [] w _,KR.one x w⟩
theorem fill_k2 (b1 b4 b7 d1 d4 d7:Bool) (s2 s3 s5 s6 t2 t3 t5 t6:ByteArray):Instr.fill (fun i=>some (i*9,9)) ((Array.range (2*9)).map ((#[.bool false,.string ⟨#[]⟩,.bool false,.string ⟨#[]⟩,.bool false,.string ⟨#[]⟩,.bool false,.string ⟨#[]⟩,.bool false]:Array Value)[· % (#[.bool false,.string ⟨#[]⟩,.bool false,.string ⟨#[]⟩,.bool false,.string ⟨#[]⟩,.bool false,.string ⟨#[]⟩,.bool false]:Array Value).size]!))
  #[(0, Value.agg #[.bool b1, .string s2, .bool false, .string s3, .bool b4, .string s5, .bool false, .string s6, .bool b7]), (1, Value.agg #[.bool d1, .string t2, .bool false, .string t3, .bool d4, .string t5, .bool false, .string t6, .bool d7])].toList = some #[.bool b1, .string s2, .bool false, .string s3, .bool b4, .string s5, .bool false, .string s6, .bool b7, .bool d1, .string t2, .bool false, .string t3, .bool d4, .string t5, .bool false, .string t6, .bool d7] := by kernel_rfl
theorem yih (x y:K) (w:World):(Instr.buildSlice 56 2 #[(0,kv x),(1,kv y)]).run prog w = .ok (.slice (some ⟨w.heap.size,0,none⟩) 2 2) (w.alloc (.cells (kcells x.1++kcells y.1).toArray 36)):=by
 obtain⟨i,z,hi,hz,hs,hb,hzc⟩:=real_info;refine run_buildSlice (P:=prog) w 56 36 2 _ _ i z underlying56 hi hz (by rw [hs];decide) (by rw [hs];decide) ?_;rw [hs,hzc,yaI,yaI];exact fill_k2 _ _ _ _ _ _ _ _ _ _ _ _ _ _
theorem KR.pair (x y:K) (w:World):∃ u g,w.alloc (.cells (kcells x.1++kcells y.1).toArray 36)=u∧w.heap.size=g∧u.heap.size=g+1∧Keep [] w u∧KR u (.slice (some ⟨g,0,none⟩) 2 2) [x,y]:=by
 refine ⟨_,_,rfl,rfl,by simp,Keep.alloc [] w _,.inr ⟨w.heap.size,0,2,rfl,Nat.le_refl _,by simp,fun i v hv=>?_⟩⟩;rw [Nat.zero_add,yaa (World.alloc_heap_new w _)];exact (List.getElem?_toArray ..).trans (by simpa using hv)
end Go.Proofs.YtejegogbhpmgfaaGreatDoor
