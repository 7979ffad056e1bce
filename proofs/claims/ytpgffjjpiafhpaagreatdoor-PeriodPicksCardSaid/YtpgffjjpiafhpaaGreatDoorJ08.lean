/- Parts of a proof: Ez Ri Rj Rm. -/
import Derived.Deep.LoopGhost
import Derived.Test.YtpgffjjpiafhpaaGreatDoorJ07
import Derived.Test.YtpgffjjpiafhpaaGreatDoorJ03
set_option linter.unusedVariables false
set_option linter.unusedSimpArgs false
set_option maxRecDepth 100000
set_option maxHeartbeats 8000000
namespace Go.Proofs.YtpgffjjpiafhpaaGreatDoor
open Go.RowKit Tryz
theorem al1 (w:World) (A:Obj):∃ (W:World) (ga:Nat),W=w.alloc A∧w.heap.size=ga∧W.heap[ga]? = some A∧w.heap.size≤ga∧ga<W.heap.size∧Keep [] w W:=by
 exact ⟨_,_,rfl,rfl,World.alloc_heap_new w A,Nat.le_refl _,by simp,Keep.alloc _ _ _⟩
theorem al1h (w:World) (A:Obj):∃ (W:World) (ga:Nat),W=w.alloc A∧w.heap.size=ga∧Hid (W.heap[ga]? = some A)∧w.heap.size≤ga∧ga<W.heap.size∧Hid (Keep [] w W):=al1 w A
theorem al2 (w:World) (A B:Obj):∃ (W:World) (ga gb:Nat),W=(w.alloc A).alloc B∧w.heap.size=ga∧w.heap.size+1=gb∧W.heap[ga]? = some A∧W.heap[gb]? = some B∧w.heap.size≤ga∧ga<gb∧gb<W.heap.size∧Keep [] w W:=by
 obtain⟨W1,ga,e1,qga,bga,hga,z1,k1⟩:=al1 w A;have es:W1.heap.size=w.heap.size+1:=by rw [e1];simp
 have a2:(W1.alloc B).heap[W1.heap.size]? = some B:=World.alloc_heap_new W1 B;have k2:=Keep.alloc [] W1 B;refine ⟨W1.alloc B,ga,W1.heap.size,by rw [e1],qga,es.symm,k2.heap bga (by simp),a2,hga,z1,by simp,k1.trans k2 (by simp)⟩
theorem al2h (w:World) (A B:Obj):∃ (W:World) (ga gb:Nat),W=(w.alloc A).alloc B∧w.heap.size=ga∧w.heap.size+1=gb∧Hid (W.heap[ga]? = some A)∧Hid (W.heap[gb]? = some B)∧w.heap.size≤ga∧ga<gb∧gb<W.heap.size∧Hid (Keep [] w W):=al2 w A B
theorem al3 (w:World) (A B C:Obj):∃ (W:World) (ga gb gc:Nat),W=((w.alloc A).alloc B).alloc C∧w.heap.size=ga∧w.heap.size+1=gb∧w.heap.size+1+1=gc∧W.heap[ga]? = some A∧W.heap[gb]? = some B∧W.heap[gc]? = some C∧w.heap.size≤ga∧ga<gb∧gb<gc∧gc<W.heap.size∧Keep [] w W:=by
 obtain⟨W1,ga,gb,e1,qga,qgb,bga,bgb,hga,hgb,z1,k1⟩:=al2 w A B;have es:W1.heap.size=w.heap.size+1+1:=by rw [e1];simp
 have a2:(W1.alloc C).heap[W1.heap.size]? = some C:=World.alloc_heap_new W1 C;have k2:=Keep.alloc [] W1 C;refine ⟨W1.alloc C,ga,gb,W1.heap.size,by rw [e1],qga,qgb,es.symm,k2.heap bga (by simp),k2.heap bgb (by simp),a2,hga,hgb,z1,by simp,k1.trans k2 (by simp)⟩
theorem al3h (w:World) (A B C:Obj):∃ (W:World) (ga gb gc:Nat),W=((w.alloc A).alloc B).alloc C∧w.heap.size=ga∧w.heap.size+1=gb∧w.heap.size+1+1=gc∧Hid (W.heap[ga]? = some A)∧Hid (W.heap[gb]? = some B)∧Hid (W.heap[gc]? = some C)∧w.heap.size≤ga∧ga<gb∧gb<gc∧gc<W.heap.size∧Hid (Keep [] w W):=al3 w A B C
theorem al4 (w:World) (A B C D:Obj):∃ (W:World) (ga gb gc gd:Nat),W=(((w.alloc A).alloc B).alloc C).alloc D∧w.heap.size=ga∧w.heap.size+1=gb∧w.heap.size+1+1=gc∧w.heap.size+1+1+1=gd∧W.heap[ga]? = some A∧W.heap[gb]? = some B∧W.heap[gc]? = some C∧W.heap[gd]? = some D∧w.heap.size≤ga∧ga<gb∧gb<gc∧gc<gd∧gd<W.heap.size∧Keep [] w W:=by
 obtain⟨W1,ga,gb,gc,e1,qga,qgb,qgc,bga,bgb,bgc,hga,hgb,hgc,z1,k1⟩:=al3 w A B C;have es:W1.heap.size=w.heap.size+1+1+1:=by rw [e1];simp
 have a2:(W1.alloc D).heap[W1.heap.size]? = some D:=World.alloc_heap_new W1 D;have k2:=Keep.alloc [] W1 D;refine ⟨W1.alloc D,ga,gb,gc,W1.heap.size,by rw [e1],qga,qgb,qgc,es.symm,k2.heap bga (by simp),k2.heap bgb (by simp),k2.heap bgc (by simp),a2,hga,hgb,hgc,z1,by simp,k1.trans k2 (by simp)⟩
theorem al5 (w:World) (A B C D E:Obj):∃ (W:World) (ga gb gc gd ge:Nat),W=((((w.alloc A).alloc B).alloc C).alloc D).alloc E∧w.heap.size=ga∧w.heap.size+1=gb∧w.heap.size+1+1=gc∧w.heap.size+1+1+1=gd∧w.heap.size+1+1+1+1=ge∧W.heap[ga]? = some A∧W.heap[gb]? = some B∧W.heap[gc]? = some C∧W.heap[gd]? = some D∧W.heap[ge]? = some E∧w.heap.size≤ga∧ga<gb∧gb<gc∧gc<gd∧gd<ge∧ge<W.heap.size∧Keep [] w W:=by
 obtain⟨W1,ga,gb,gc,gd,e1,qga,qgb,qgc,qgd,bga,bgb,bgc,bgd,hga,hgb,hgc,hgd,z1,k1⟩:=al4 w A B C D;have es:W1.heap.size=w.heap.size+1+1+1+1:=by rw [e1];simp
 have a2:(W1.alloc E).heap[W1.heap.size]? = some E:=World.alloc_heap_new W1 E;have k2:=Keep.alloc [] W1 E;refine ⟨W1.alloc E,ga,gb,gc,gd,W1.heap.size,by rw [e1],qga,qgb,qgc,qgd,es.symm,k2.heap bga (by simp),k2.heap bgb (by simp),k2.heap bgc (by simp),k2.heap bgd (by simp),a2,hga,hgb,hgc,hgd,z1,by simp,k1.trans k2 (by simp)⟩
theorem al5h (w:World) (A B C D E:Obj):∃ (W:World) (ga gb gc gd ge:Nat),W=((((w.alloc A).alloc B).alloc C).alloc D).alloc E∧w.heap.size=ga∧w.heap.size+1=gb∧w.heap.size+1+1=gc∧w.heap.size+1+1+1=gd∧w.heap.size+1+1+1+1=ge∧Hid (W.heap[ga]? = some A)∧Hid (W.heap[gb]? = some B)∧Hid (W.heap[gc]? = some C)∧Hid (W.heap[gd]? = some D)∧Hid (W.heap[ge]? = some E)∧w.heap.size≤ga∧ga<gb∧gb<gc∧gc<gd∧gd<ge∧ge<W.heap.size∧Hid (Keep [] w W):=al5 w A B C D E
theorem yaf {w:World} {b:Nat} {cs:Array Value} {t:TypeId} {f:Nat × Nat} (h:w.heap[b]? = some (.cells cs t f)) (m:KW w) (i:Nat):(Wk w m).cell? ⟨b,i,none⟩=cs[i]?:=by
 show m.x.cell? _=_
 rw [yab (m.k.heap h (by simp))]
theorem st2 {w:World} {g:Nat} {a b x y:Value} {t:TypeId} (h:w.heap[g]? = some (.cells #[a,b] t (0,0))) :
  ∃ W,W=(w.setCell ⟨g,0,none⟩ x).setCell ⟨g,1,none⟩ y∧W.heap[g]? = some (.cells #[x,y] t (0,0))∧Keep [g] w W :=
 ⟨_,rfl,by rw [set_same (set_same h 0 x) 1 y];rfl,(Keep.setCell [g] w g 0 x (by simp)).trans (Keep.setCell [g] _ g 1 y (by simp)) (by simp)⟩
theorem st4 {w:World} {g:Nat} {a b c d x y z u:Value} {t:TypeId} (h:w.heap[g]? = some (.cells #[a,b,c,d] t (0,0))) :
  ∃ W,W=(((w.setCell ⟨g,0,none⟩ x).setCell ⟨g,1,none⟩ y).setCell ⟨g,2,none⟩ z).setCell ⟨g,3,none⟩ u∧W.heap[g]? = some (.cells #[x,y,z,u] t (0,0))∧Keep [g] w W :=
 ⟨_,rfl,by rw [set_same (set_same (set_same (set_same h 0 x) 1 y) 2 z) 3 u];rfl,
  (((Keep.setCell [g] w g 0 x (by simp)).trans (Keep.setCell [g] _ g 1 y (by simp)) (by simp)).trans (Keep.setCell [g] _ g 2 z (by simp)) (by simp)).trans (Keep.setCell [g] _ g 3 u (by simp)) (by simp)⟩
theorem ygz (d:Nat) (a b:Bool) (s t:ByteArray) (w:World):(Op.equalIn (d+2) 26 (.agg #[.bool a,.string s]) (.agg #[.bool b,.string t])).run prog w = .ok ((a == b)&&decide (s=t)) w:=by
 have u3:=underlying4;have a3:=isAgg4;have z3:=sizeOf4;have u9:=underlying9;have a9:=isAgg9;have z9:=sizeOf9;have hS:prog.underlying 26=some (.struct (prog.fieldsOf 26)):=by kernel_rfl
 have hp:prog.stoodInHeld 26=false:=by kernel_rfl
 rw [run_equalIn_agg w (d+1) 26 _ _ hS hp];simp only [Program.fieldsOf,underlying26];go_simp;by_cases h:s=t
 ·have h2:=str_yes h
  cases a<;>cases b<;>simp [h,h2]
 have h2:=yeX h;have h3:¬ s.toList=t.toList:=fun e=>h (yds e);cases a<;>cases b<;>simp [h,h2,h3]
theorem eqZ_g:prog.eqGuardType prog.depth 26=false:=by kernel_rfl
theorem yip (d:Nat) (a1 b1 a2 b2:Bool) (s1 t1 s2 t2:ByteArray) (w:World):(Op.equalIn (d+3) 28 (.agg #[.bool a1,.string s1,.bool a2,.string s2]) (.agg #[.bool b1,.string t1,.bool b2,.string t2])).run prog w = .ok (((a1 == b1)&&decide (s1=t1))&&((a2 == b2)&&decide (s2=t2))) w:=by
 have u3:=underlying26;have a3:=isAgg26;have z3:=sizeOf26;have e1:=ygz d a1 b1 s1 t1;have e2:=ygz d a2 b2 s2 t2;have hS:prog.underlying 28=some (.struct (prog.fieldsOf 28)):=by kernel_rfl
 have hp:prog.stoodInHeld 28=false:=by kernel_rfl
 rw [run_equalIn_agg w (d+2) 28 _ _ hS hp];simp only [Program.fieldsOf,underlying28];go_simp;by_cases h1:s1=t1<;>by_cases h2:s2=t2<;>cases a1<;>cases b1<;>cases a2<;>cases b2<;>simp [h1,h2]
theorem eqQ_g:prog.eqGuardType prog.depth 28=false:=by kernel_rfl
theorem yiv (d:Nat) (a1 b1 a2 b2 a3' b3' a4 b4 a5 b5:Bool) (s1 t1 s2 t2 s3 t3 s4 t4:ByteArray) (w:World):(Op.equalIn (d+4) 30 (.agg #[.bool a1,.string s1,.bool a2,.string s2,.bool a3',.string s3,.bool a4,.string s4,.bool a5]) (.agg #[.bool b1,.string t1,.bool b2,.string t2,.bool b3',.string t3,.bool b4,.string t4,.bool b5])).run prog w =
  .ok ((((a1 == b1)&&decide (s1=t1))&&((a2 == b2)&&decide (s2=t2)))&&((((a3' == b3')&&decide (s3=t3))&&((a4 == b4)&&decide (s4=t4)))&&(a5 == b5))) w:=by
 have u3:=underlying28;have a3:=isAgg28;have z3:=sizeOf28;have u4:=underlying4;have aa4:=isAgg4;have z4:=sizeOf4;have e1:=yip d a1 b1 a2 b2 s1 t1 s2 t2;have e2:=yip d a3' b3' a4 b4 s3 t3 s4 t4;have hS:prog.underlying 30=some (.struct (prog.fieldsOf 30)):=by kernel_rfl
 have hp:prog.stoodInHeld 30=false:=by kernel_rfl
 rw [run_equalIn_agg w (d+3) 30 _ _ hS hp];simp only [Program.fieldsOf,underlying30];generalize (((a1 == b1)&&decide (s1=t1))&&((a2 == b2)&&decide (s2=t2)))=x1 at *;generalize (((a3' == b3')&&decide (s3=t3))&&((a4 == b4)&&decide (s4=t4)))=x2 at *;go_simp;cases x1<;>cases x2<;>cases a5<;>cases b5<;>simp
theorem eqR_g:prog.eqGuardType prog.depth 30=false:=by kernel_rfl
def zc (z:Int):List Value:=[.bool (sgB z),.string (mgS z)]
def dnS (n:Nat):ByteArray:=if n=1 then ⟨#[]⟩ else magS n
def rc (q:Rat):List Value:=[.bool (sgB q.num),.string (mgS q.num),.bool false,.string (dnS q.den)]
def rv (q:Rat):Value:=.agg #[.bool (sgB q.num),.string (mgS q.num),.bool false,.string (dnS q.den)]
theorem mg_sg_inj {a b:Int} (h1:sgB a=sgB b) (h2:mgS a=mgS b):a=b:=by
 unfold mgS at h2;rw [ygq] at h2;unfold sgB at h1;rw [decide_eq_decide] at h1;omega
theorem eqZ_dec (a b:Int):((sgB a == sgB b)&&decide (mgS a=mgS b))=decide (a=b):=by
 by_cases h:a=b
 ·subst h;simp
 rw [decide_eq_false h];by_cases h1:sgB a=sgB b
 ·have h2:mgS a≠mgS b:=fun e=>h (mg_sg_inj h1 e)
  simp [h2]
 simp [h1]
theorem dnS_inj {m n:Nat} (hm:m≠0) (hn:n≠0) (h:dnS m=dnS n):m=n:=by
 unfold dnS at h;by_cases h1:m=1<;>by_cases h2:n=1
 ·omega
 ·rw [if_pos h1,if_neg h2] at h
  exact absurd (ybp.1 h.symm) hn
 ·rw [if_neg h1,if_pos h2] at h
  exact absurd (ybp.1 h) hm
 rw [if_neg h1,if_neg h2,ygq] at h;exact h
theorem eqD_dec (a b:Rat):((false == false)&&decide (dnS a.den=dnS b.den))=decide (a.den=b.den):=by
 by_cases h:a.den=b.den
 ·rw [h];simp
 have:dnS a.den≠dnS b.den:=fun e=>h (dnS_inj a.den_nz b.den_nz e);simp [h,this]
theorem yef (a b:Rat):(((sgB a.num == sgB b.num)&&decide (mgS a.num=mgS b.num))&&((false == false)&&decide (dnS a.den=dnS b.den)))=decide (a=b):=by
 rw [eqZ_dec,eqD_dec];by_cases h:a=b
 ·subst h;simp
 rw [decide_eq_false h];by_cases h1:a.num=b.num
 ·have h2:a.den≠b.den:=fun e=>h (Rat.ext h1 e)
  simp [h2]
 simp [h1]
theorem eqZ_run (a b:Int) (w:World):(binOp .eql 26 (.agg #[.bool (sgB a),.string (mgS a)]) (.agg #[.bool (sgB b),.string (mgS b)])).run prog w = .ok (.bool (decide (a=b))) w:=by
 rw [run_eql_struct,show (10000:Nat)=9998+2 from rfl,ygz,eqZ_dec];rfl
theorem eqD_run (a b:Rat) (w:World):(binOp .eql 26 (.agg #[.bool false,.string (dnS a.den)]) (.agg #[.bool false,.string (dnS b.den)])).run prog w = .ok (.bool (decide (a.den=b.den))) w:=by
 rw [run_eql_struct,show (10000:Nat)=9998+2 from rfl,ygz,eqD_dec];rfl
theorem eqQ_run (a b:Rat) (w:World):(binOp .eql 28 (rv a) (rv b)).run prog w = .ok (.bool (decide (a=b))) w:=by
 unfold rv;rw [run_eql_struct,show (10000:Nat)=9997+3 from rfl,yip,yef];rfl
theorem ycM {n:Nat} (h:n=1):dnS n=⟨#[]⟩:=by unfold dnS;rw [if_pos h]
theorem yel {n:Nat} (h:n≠1):dnS n=magS n:=by unfold dnS;rw [if_neg h]
theorem yfE (n:Nat):mgS (n:Int)=magS n:=by unfold mgS;rw [Int.natAbs_natCast]
theorem yfG (n:Nat):sgB (n:Int)=false:=by unfold sgB;simp
def ints (l:List Nat):List Value:=l.map fun (d:Nat)=>.int .i64 (d:Int)
theorem ybo (l:List Nat):(ints l).length=l.length:=by simp [ints]
theorem ygn (l:List Nat) (i:Nat) (h:i<l.length):(ints l)[i]? = some (.int .i64 ((l[i]:Nat):Int)):=by simp [ints,h]
theorem ints_snoc (l:List Nat) (d:Nat):ints l++[.int .i64 (d:Int)]=ints (l++[d]):=by simp [ints]
theorem yat {w w':World} {e:TypeId} {size:Nat} {v:Value} {n:Nat} {xs:List Value} {F:List Nat} (h:w.ownsRow 0 e size v n xs) (hk:Keep F w w') (hF:∀ g,v.ownBlock=some g→g ∉ F):w'.ownsRow 0 e size v n xs:=by
 refine ⟨h.1,?_⟩;rcases h.2 with hn|⟨g,cap,cur,hv,hb,hg,rest⟩
 ·exact .inl hn
 exact .inr ⟨g,cap,cur,hv,hb,hk.heap hg (hF g (by rw [hv];rfl)),rest⟩
theorem ydS {w:World} {e:TypeId} {size:Nat} {v:Value} {n:Nat} {xs:List Value} (h:w.ownsRow 0 e size v n xs):∃ po pc,v = .slice po n pc:=by
 rcases h.2 with ⟨hv,h0⟩|⟨g,cap,cur,hv,_⟩
 ·exact ⟨none,0,by rw [hv,h0]⟩
 exact ⟨_,cap,hv⟩
theorem yaP (w:World) (v:Value) (t:TypeId):∀ (j:Nat) (u:Value),[v][j]? = some u→(w.alloc (.cells #[v] t)).cell? ((⟨w.heap.size,0,none⟩:Addr).add j)=some u:=by
 intro j u hj
 match j,hj with
 | 0,hj=>simp at hj;subst hj;simp [Addr.add,go_sem]
structure OI (w0 w:World) (v:Value) (l:List Nat):Prop where
 row:w.ownsRow 0 3 1 v l.length (ints l)
 base:∀ g,v.ownBlock=some g→w0.heap.size≤g
 keep:Keep [] w0 w
theorem OI.nil (w:World):OI w w (.slice none 0 0) []:=⟨⟨rfl,.inl ⟨rfl,rfl⟩⟩,by simp [Value.ownBlock],Keep.refl _ _⟩
theorem OI.later {w0 w w':World} {v:Value} {l:List Nat} (h:OI w0 w v l) (hk:Keep [] w w'):OI w0 w' v l :=
 ⟨yat h.row hk (by simp),h.base,h.keep.tz hk⟩
theorem OI.form {w0 w:World} {v:Value} {l:List Nat} (h:OI w0 w v l):∃ po pc,v = .slice po l.length pc:=ydS h.row
theorem OI.read {w0 w:World} {v:Value} {l:List Nat} (h:OI w0 w v l):RowR w v (ints l):=by
 exact RowR.of_own h.row
theorem OI.step {w0 wr wa:World} {v:Value} {l:List Nat} (h:OI w0 wr v l) {g cap d:Nat} {t:TypeId} (hoa:wa.ownsRow 0 3 1 (.slice (some ⟨g,0,none⟩) (l.length+1) cap) (l.length+1) (ints l++[.int .i64 (d:Int)]))
  (hga:(wr.alloc (.cells #[.int .i64 (d:Int)] t)).grownBy wa v.ownBlock) (hfa:some g=v.ownBlock∨wr.heap.size+1≤g) (hda:(wr.alloc (.cells #[.int .i64 (d:Int)] t)).drawn≤wa.drawn) :
  OI w0 wa (.slice (some ⟨g,0,none⟩) (l.length+1) cap) (l++[d]):=by
 refine ⟨?_,?_,?_⟩
 ·rw [← ints_snoc,List.length_append];exact hoa
 ·intro k hk
  simp [Value.ownBlock] at hk;subst hk;rcases hfa with h1|h1
  ·exact h.base _ h1.symm
  have:=h.keep.size;omega
 exact (h.keep.aP _).grownPast hga hda (fun k hk=>h.base k hk)
theorem infoInt:(prog.info? 3).map (fun i=>(i.zero,i.size,i.bytes))=some (some (.int .i64 0),1,8):=by kernel_rfl
def CapOk (v:Value):Prop:=∀ a n c,v = .slice a n c→n≤c
theorem OI.cap {w0 w:World} {v:Value} {l:List Nat} (h:OI w0 w v l):CapOk v:=by
 intro a n c e;rcases h.row.2 with ⟨hv,_⟩|⟨g,cap,cur,hv,_,_,hc,_⟩
 ·rw [hv] at e;injection e with _ e2 e3;omega
 rw [hv] at e;injection e with _ e2 e3;omega
def DR (w:World) (v:Value) (N:Nat):Prop:=RowR w v (ints (digs 256 N))∧CapOk v
theorem DR.later {w w':World} {v:Value} {N:Nat} (h:DR w v N) (hk:Keep [] w w'):DR w' v N:=⟨h.1.keep0 hk,h.2⟩
def Trimmed (w:World) (l:List Nat) (e:Ending):Prop:=∃ v,e = .returned v∧RowR w v (ints (trimD l))∧CapOk v
theorem ydc {w:World} {l:List Nat} {g o c m:Nat} (hm:m≤l.length) (hc:l.length≤c) (ht:trimD l=l.take m) (hg:g<w.heap.size) (h:∀ i u,(ints l)[i]? = some u→w.cell? ⟨g,o+i,none⟩=some u) :
  Trimmed w l (.returned (.slice (some ⟨g,o,none⟩) m c)):=by
 have hlen:(ints (trimD l)).length=m:=by rw [ybo,ht,List.length_take,Nat.min_eq_left hm]
 refine ⟨_,rfl,.inr ⟨g,o,c,by rw [hlen],hg,fun i u hi=>h i u ?_⟩,fun a n c' e=>?_⟩
 ·have hlt:i<(ints (trimD l)).length:=(List.getElem?_eq_some_iff.1 hi).1
  rw [hlen] at hlt;rw [ht] at hi;have:ints (l.take m)=(ints l).take m:=by simp [ints,List.map_take]
  rw [this,List.getElem?_take_of_lt hlt] at hi;exact hi
 injection e with _ e2 e3;omega
theorem ydw (w:World) (sv:Value) (l:List Nat) (hl9:l.length≤1000000000000) (h:RowR w sv (ints l)) (hcap:CapOk sv) :
  Calls prog 179 #[sv] w fun e w'=>Trimmed w l e∧w'=w:=by
 rcases h with ⟨rfl,h0⟩|⟨g,o,c,rfl,hg,hc⟩
 ·have h1:l=[]:=by simpa [ints] using h0
  subst h1;go_enter func179,ntmps179
  go_wp2_with fail;go_rounds 1
  go_wp2_with fail;go_ret
  exact ⟨⟨_,rfl,.inl ⟨rfl,rfl⟩,fun a n c e=>by injection e with _ e2 e3;omega⟩,rfl⟩
 rw [ybo] at hcap ⊢;have hlc:l.length≤c:=hcap _ _ _ rfl;have Hc:=jX hc;clear hc hcap;go_enter func179,ntmps179
 go_wp2_with fail;go_loop [3] (fun x=>∃ m:Nat,m≤l.length∧x = .int .i64 (m:Int)∧trimD (l.take m)=trimD l) (fun x=>(intOf x).toNat)
 case atStart=>exact ⟨l.length,Nat.le_refl _,rfl,by rw [List.take_length]⟩
 case round =>
  obtain⟨m,hm,rfl,ht⟩:=hrel;have Ht:=jX ht;clear ht
  match m,hm,Ht with
  | 0,hm,Ht =>
   have hT:=jX (ydc (c:=c) hm hlc Ht.out.symm hg Hc.out);go_wp2_with fail;go_ret
   exact ⟨hT.out,rfl⟩
  | k+1,hm,Ht =>
   have hcell:=Hc.out k _ (ygn l k (by omega));have hi:(((k+1:Nat):Int)-1).toNat=k:=by omega
   by_cases hz:l[k]=0
   ·have hstep:=ycf l k (by omega) hz
    rw [hz] at hcell;have Hstep:=jX (hstep.symm.trans Ht.out);clear hstep hz;go_wp2_with fail;go_round
    case rel=>exact ⟨k,by omega,congrArg (Value.int .i64) (by omega),Hstep.out⟩
    case measure=>simp [intOf]
   have hstep:=ycH l k (by omega) hz;have hT:=jX (ydc (c:=c) hm hlc (Ht.out.symm.trans hstep) hg Hc.out);have hne:(((l[k]:Nat):Int) == 0)=false:=by rw [beq_eq_false_iff_ne];omega
   generalize l[k]=d at *;clear hstep hz;go_wp2_with fail;go_ret
   exact ⟨hT.out,rfl⟩
def revB (s:ByteArray):List Nat:=s.data.toList.reverse.map UInt8.toNat
theorem yce (s:ByteArray):(revB s).length=s.size:=by simp [revB]
theorem val_rev:∀ l:List UInt8,val 256 (l.reverse.map UInt8.toNat)=natL l
 | []=>rfl
 | b :: l=>by
  rw [List.reverse_cons,List.map_append,List.map_singleton,val_snoc,val_rev l,ybC];rw [List.length_map,List.length_reverse,Nat.mul_comm (256 ^ l.length),Nat.add_comm]
theorem yiD (s:ByteArray):val 256 (revB s)=natB s:=val_rev _
theorem revB_lt (s:ByteArray):∀ d∈revB s,d<256:=by
 intro d hd;unfold revB at hd;obtain⟨b,_,rfl⟩:=List.mem_map.1 hd;exact b.toNat_lt
theorem ygu (s:ByteArray) (k:Nat) (h:k<s.size):(revB s).take (k+1)=(revB s).take k++[(s[s.size-1-k]'(by omega)).toNat]:=by
 have hl:k<(revB s).length:=by rw [yce];exact h
 rw [List.take_add_one,List.getElem?_eq_getElem hl,Option.toList_some];congr 2
 simp only [revB,List.getElem_map];rw [List.getElem_reverse];congr 1
theorem ybk {w:World} {l:List Nat} {e:Ending} (h:Trimmed w l e) (hd:∀ d∈l,d<256):∃ v,e = .returned v∧DR w v (val 256 l):=by
 obtain⟨v,h1,h2,h3⟩:=h;rw [yja (B:=256) (by decide) l hd] at h2;exact ⟨v,h1,h2,h3⟩
def Digits (w0:World) (N:Nat) (e:Ending) (w':World):Prop:=∃ v,e = .returned v∧DR w' v N∧Keep [] w0 w'
theorem yeZ (n:Bool) (s:ByteArray) (hs:s.size≤1000000000000) (w:World) :
  Calls prog 137 #[.agg #[.bool n,.string s]] w (Digits w (natB s)):=by
 obtain⟨i0,hi,hz0,hz1,hz2⟩:=yaN infoInt;have Hi:=jX (And.intro hi (And.intro hz0 (And.intro hz1 hz2)));clear hi hz0 hz1 hz2;go_enter func137,ntmps137
 go_wp2_with fail;obtain⟨W,ga,hW,ega,Bga,hga,hgW,HkW⟩:=al1h w (.cells #[.bool n,.string s] 26);rw [← hW];try rw [ega]
 clear hW ega;obtain⟨pga,fga,lga⟩:=jQ Bga;go_wp2_with fail;go_loopw [3,4] (fun b i wr=>∃ k:Nat,k≤s.size∧i = .int .i64 ((s.size:Int)-1-(k:Int))∧∃ l,l=(revB s).take k∧OI W wr b l) (fun _ i _=>(intOf i+1).toNat)
 case atStart=>exact ⟨0,by omega,congrArg (Value.int .i64) (by omega),_,rfl,OI.nil _⟩
 case round =>
  obtain⟨k,hk,rfl,l,hl,hoi⟩:=hrel;have Bga2:=jX (hoi.keep.heap Bga.out (by simp));have pga2:=yab Bga2.out;have Hrow:=jX hoi;have hll:l.length=k:=by rw [hl,List.length_take,yce];omega
  have hl9:l.length≤1000000000000:=by omega
  clear hll;obtain⟨po,pc,rfl⟩:=hoi.form;have Hl:=jX hl;clear hl hoi;by_cases hlt:k<s.size
  ·have hix:=fun w=>yfj w s k hlt
   have hrt:=ygu s k hlt;rw [← Hl.out] at hrt;have Hrt:=jX hrt;have hgw:=yaa Bga2.out;have hd9:(s[s.size-1-k]'(by omega)).toNat≤255:=by have:=UInt8.toNat_lt (s[s.size-1-k]'(by omega));omega
   generalize (s[s.size-1-k]'(by omega)).toNat=d at *;clear hrt;go_wp2_with (at_builtin;refine yan _ rfl _ _ 156 rfl 3 i0 _ 1 8 underlying156 Hi.out.1 Hi.out.2.1 Hi.out.2.2.1 Hi.out.2.2.2 rfl (by decide) _ _ _ rfl (yat Hrow.out.row (Keep.alloc [] _ _) (by simp)) ⟨wr.heap.size,0,none⟩ 1 1 [.int .i64 (d)] rfl rfl (yaP _ _ _) ?c2 (by decide) ?c3 ?c4 ?_)
   case c2=>first|(intro u hu;simp at hu;subst hu;rfl)|rfl
   case c3=>unfold maxLen;omega
   case c4=>omega
   intro g cap wa hoa hga hfa hda;have Hn:=jX (Hrow.out.step hoa hga hfa hda);clear hoa hga hfa hda;go_wp2_with fail;go_roundw
   case rel=>exact ⟨k+1,by omega,congrArg (Value.int .i64) (by omega),_,Hrt.out.symm,Hn.out⟩
   case measure=>simp [intOf];omega
  obtain rfl:k=s.size:=by omega
  have hfull:l=revB s:=by rw [Hl.out,List.take_of_length_le (by rw [yce];omega)]
  have HT:=jX (ydw wr _ l (by omega) Hrow.out.read Hrow.out.cap);have Hf:=jX hfull;clear hfull;go_wp2_with fail;refine HT.out.mono ?_;rintro e w2 ⟨ht,rfl⟩;obtain⟨v,rfl,hdr⟩:=ybk ht (by rw [Hf.out];exact revB_lt s);rw [Hf.out,yiD] at hdr;have Hdr:=jX hdr;clear ht hdr HT;dsimp only;go_wp2_with fail;go_ret
  exact ⟨v,rfl,Hdr.out,HkW.out.tz Hrow.out.keep⟩
def Ln (N:Nat):Nat:=(digs 256 N).length
theorem Ln_le {N k:Nat}:Ln N≤k↔N<256 ^ k:=yhG (by decide) N k
theorem Ln_lt (N:Nat):N<256 ^ Ln N:=Ln_le.1 (Nat.le_refl _)
theorem Ln_mono {M N:Nat} (h:M≤N):Ln M≤Ln N:=Ln_le.2 (Nat.lt_of_le_of_lt h (Ln_lt N))
theorem Ln_add (M N:Nat):Ln (M+N)≤max (Ln M) (Ln N)+1:=by
 rw [Ln_le,Nat.pow_succ];have h1:=Nat.lt_of_lt_of_le (Ln_lt M) (Nat.pow_le_pow_right (n:=256) (by decide) (Nat.le_max_left (Ln M) (Ln N)));have h2:=Nat.lt_of_lt_of_le (Ln_lt N) (Nat.pow_le_pow_right (n:=256) (by decide) (Nat.le_max_right (Ln M) (Ln N)));omega
theorem Ln_mul (M N:Nat):Ln (M*N)≤Ln M+Ln N:=by
 rw [Ln_le,Nat.pow_add];exact Nat.mul_lt_mul'' (Ln_lt M) (Ln_lt N)
theorem Ln_high {N i:Nat} (h:¬ i<Ln N):N / 256 ^ i % 256=0:=by
 rw [Nat.div_eq_of_lt (Nat.lt_of_lt_of_le (Ln_lt N) (Nat.pow_le_pow_right (by decide) (by omega)))]
theorem Ln_get (N i:Nat) (h:i<(digs 256 N).length):(digs 256 N)[i]=N / 256 ^ i % 256:=by
 have:=yeU (B:=256) (by decide) (digs 256 N) i h (yfY (by decide) N);rw [ycl (by decide)] at this;exact this.symm
theorem DR.form {w:World} {v:Value} {N:Nat} (h:DR w v N):∃ ao c,v = .slice ao (Ln N) c∧Ln N≤c:=by
 obtain⟨ao,c,e⟩:=h.1.form;rw [ybo] at e;exact ⟨ao,c,e,h.2 _ _ _ e⟩
theorem DR.cell {w:World} {ao:Option Addr} {n c N:Nat} (h:DR w (.slice ao n c) N) {i:Nat} (hi:i<Ln N):∃ g o,ao=some ⟨g,o,none⟩∧g<w.heap.size∧w.cell? ⟨g,o+i,none⟩=some (.int .i64 ((N / 256 ^ i % 256:Nat):Int)):=by
 have hl:i<(digs 256 N).length:=hi;rcases h.1 with ⟨h1,h2⟩|⟨g,o,c',h1,hg,hc⟩
 ·have:(digs 256 N).length=0:=by rw [← ybo,h2];rfl
  omega
 injection h1 with h1 _ _;exact ⟨g,o,h1,hg,by have:=hc i _ (ygn _ i hl);rwa [Ln_get] at this⟩
theorem ydD (B k S:Nat):dl B (k+1) S=dl B k S++[S / B ^ k % B]:=by
 unfold dl;rw [List.range_succ,List.map_append];rfl
theorem yji {A B n m i:Nat} (hA:A<256 ^ n) (hB:B<256 ^ m) (hi:max n m+1≤i):carryA 256 i A B=0:=by
 have h1:=Nat.lt_of_lt_of_le hA (Nat.pow_le_pow_right (n:=256) (by decide) (Nat.le_max_left n m));have h2:=Nat.lt_of_lt_of_le hB (Nat.pow_le_pow_right (n:=256) (by decide) (Nat.le_max_right n m));have h3:256 ^ (max n m+1)≤256 ^ i:=Nat.pow_le_pow_right (by decide) hi;rw [Nat.pow_succ] at h3;unfold carryA;rw [Nat.mod_eq_of_lt (by omega),Nat.mod_eq_of_lt (by omega)];exact Nat.div_eq_of_lt (by omega)
theorem yiS {A B n m i:Nat} (hA:A<256 ^ n) (hB:B<256 ^ m) (hn:n≤i) (hm:m≤i) (h:carryA 256 i A B=0):A+B<256 ^ i:=by
 have h1:=Nat.lt_of_lt_of_le hA (Nat.pow_le_pow_right (n:=256) (by decide) hn);have h2:=Nat.lt_of_lt_of_le hB (Nat.pow_le_pow_right (n:=256) (by decide) hm);unfold carryA at h;rw [Nat.mod_eq_of_lt h1,Nat.mod_eq_of_lt h2] at h;rcases Nat.lt_or_ge (A+B) (256 ^ i) with h3|h3
 ·exact h3
 have:=Nat.div_pos h3 (Nat.pow_pos (n:=i) (show 0<256 by decide))
 omega
theorem yfI (w:World) (v1 v2:Value) (A B:Nat) (h1:DR w v1 A) (h2:DR w v2 B) (hA:Ln A≤1000000000) (hB:Ln B≤1000000000) :
  Calls prog 180 #[v1,v2] w (Digits w (A+B)):=by
 obtain⟨i0,hi,hz0,hz1,hz2⟩:=yaN infoInt;have Hi:=jX (And.intro hi (And.intro hz0 (And.intro hz1 hz2)));clear hi hz0 hz1 hz2;obtain⟨ao,ac,rfl,_⟩:=h1.form;obtain⟨bo,bc,rfl,_⟩:=h2.form;obtain⟨n,hn⟩:∃ n,Ln A=n:=⟨_,rfl⟩;obtain⟨m,hm⟩:∃ m,Ln B=m:=⟨_,rfl⟩;have Hca:Hid (∀ w',Keep [] w w'→∀ i,i<n→∃ g o,ao=some ⟨g,o,none⟩∧g<w'.heap.size∧w'.cell? ⟨g,o+i,none⟩=some (.int .i64 ((A / 256 ^ i % 256:Nat):Int))):=fun w' hk i hi=>(h1.later hk).cell (by omega);have Hcb:Hid (∀ w',Keep [] w w'→∀ i,i<m→∃ g o,bo=some ⟨g,o,none⟩∧g<w'.heap.size∧w'.cell? ⟨g,o+i,none⟩=some (.int .i64 ((B / 256 ^ i % 256:Nat):Int))):=fun w' hk i hi=>(h2.later hk).cell (by omega);have Hza:Hid (∀ i,¬ i<n→A / 256 ^ i % 256=0):=fun i h=>Ln_high (by omega);have Hzb:Hid (∀ i,¬ i<m→B / 256 ^ i % 256=0):=fun i h=>Ln_high (by omega);have HLa:Hid (A<256 ^ n):=by rw [← hn];exact Ln_lt A
 have HLb:Hid (B<256 ^ m):=by rw [← hm];exact Ln_lt B
 rw [hn] at hA ⊢;rw [hm] at hB ⊢;clear h1 h2 hn hm;go_enter func180,ntmps180
 go_wp2_with fail;go_loopw [5,6,7] (fun b c x wr=>∃ i:Nat,i≤max n m+1∧x = .int .i64 (i:Int)∧c = .int .i64 (carryA 256 i A B:Nat)∧∃ l,l=dl 256 i (A+B)∧OI w wr b l) (fun _ _ x _=>max n m+2-(intOf x).toNat)
 case atStart=>exact ⟨0,by omega,rfl,by rw [ycb];rfl,_,rfl,OI.nil _⟩
 case round =>
  obtain⟨i,hi,rfl,rfl,l,hl,hoi⟩:=hrel;have Hrow:=jX hoi;have hl9:l.length≤1000000001:=by rw [hl,yaO];omega
  obtain⟨po,pc,rfl⟩:=hoi.form;have Hl:=jX hl;clear hl hoi;by_cases ha:i<n
  ·obtain⟨g1,o1,rfl,hg1,c1⟩:=Hca.out wr Hrow.out.keep i ha
   have him:i<max n m:=by omega
   have x9:=Nat.mod_lt (A / 256 ^ i) (show 0<256 by decide)
   have y9:=Nat.mod_lt (B / 256 ^ i) (show 0<256 by decide)
   have Hnext:=jX (ybg (show 0<256 by decide) i A B)
   have hdg:=yaZ (show 0<256 by decide) i A B
   have hsn:=ydD 256 i (A+B);rw [← hdg] at hsn;have Hsn:=jX hsn;have hc1:=ybN (show 0<256 by decide) i A B
   clear hdg hsn;by_cases hb:i<m
   ·obtain⟨g2,o2,rfl,hg2,c2⟩:=Hcb.out wr Hrow.out.keep i hb
    generalize A / 256 ^ i % 256=x at *;generalize B / 256 ^ i % 256=y at *;generalize carryA 256 i A B=c at *;obtain⟨d,hd⟩:∃ d,(c+x+y) % 256=d:=⟨_,rfl⟩;rw [hd] at Hsn;have hd2:((c:Int)+x+y) % 256=(d:Int):=by omega
    have hd9:d≤255:=by omega
    clear hd;go_wp2_with (at_builtin;refine yan _ rfl _ _ 156 rfl 3 i0 _ 1 8 underlying156 Hi.out.1 Hi.out.2.1 Hi.out.2.2.1 Hi.out.2.2.2 rfl (by decide) _ _ _ rfl (yat Hrow.out.row (Keep.alloc [] _ _) (by simp)) ⟨wr.heap.size,0,none⟩ 1 1 [.int .i64 (d)] rfl rfl (yaP _ _ _) ?c2 (by decide) ?c3 ?c4 ?_)
    case c2=>first|(intro u hu;simp at hu;subst hu;rfl)|rfl
    case c3=>unfold maxLen;omega
    case c4=>omega
    intro g cap wa hoa hga hfa hda;have Hn:=jX (Hrow.out.step (d:=d) hoa hga hfa hda);clear hoa hga hfa hda;go_wp2_with fail;go_roundw
    case rel=>exact ⟨i+1,by omega,by go_num,by rw [← Hnext.out];exact congrArg (Value.int .i64) (by omega),l++[d],by rw [Hsn.out,← Hl.out],Hn.out⟩
    case measure=>simp [intOf];omega
   have hy0:=Hzb.out i hb;rw [hy0] at Hnext Hsn;generalize A / 256 ^ i % 256=x at *;generalize carryA 256 i A B=c at *;obtain⟨d,hd⟩:∃ d,(c+x+0) % 256=d:=⟨_,rfl⟩;rw [hd] at Hsn;have hd2:((c:Int)+x) % 256=(d:Int):=by omega
   have hd9:d≤255:=by omega
   clear hd hy0 y9;go_wp2_with (at_builtin;refine yan _ rfl _ _ 156 rfl 3 i0 _ 1 8 underlying156 Hi.out.1 Hi.out.2.1 Hi.out.2.2.1 Hi.out.2.2.2 rfl (by decide) _ _ _ rfl (yat Hrow.out.row (Keep.alloc [] _ _) (by simp)) ⟨wr.heap.size,0,none⟩ 1 1 [.int .i64 (d)] rfl rfl (yaP _ _ _) ?c2 (by decide) ?c3 ?c4 ?_)
   case c2=>first|(intro u hu;simp at hu;subst hu;rfl)|rfl
   case c3=>unfold maxLen;omega
   case c4=>omega
   intro g cap wa hoa hga hfa hda;have Hn:=jX (Hrow.out.step (d:=d) hoa hga hfa hda);clear hoa hga hfa hda;go_wp2_with fail;go_roundw
   case rel=>exact ⟨i+1,by omega,by go_num,by rw [← Hnext.out];exact congrArg (Value.int .i64) (by omega),l++[d],by rw [Hsn.out,← Hl.out],Hn.out⟩
   case measure=>simp [intOf];omega
  have hx0:=Hza.out i ha;have y9:=Nat.mod_lt (B / 256 ^ i) (show 0<256 by decide)
  by_cases hb:i<m
  ·obtain⟨g2,o2,rfl,hg2,c2⟩:=Hcb.out wr Hrow.out.keep i hb
   have him:i<max n m:=by omega
   have Hnext:=jX (ybg (show 0<256 by decide) i A B)
   have hdg:=yaZ (show 0<256 by decide) i A B
   have hsn:=ydD 256 i (A+B);rw [← hdg] at hsn;have Hsn:=jX hsn;have hc1:=ybN (show 0<256 by decide) i A B
   clear hdg hsn;rw [hx0] at Hnext Hsn;generalize B / 256 ^ i % 256=y at *;generalize carryA 256 i A B=c at *;obtain⟨d,hd⟩:∃ d,(c+0+y) % 256=d:=⟨_,rfl⟩;rw [hd] at Hsn;have hd2:((c:Int)+y) % 256=(d:Int):=by omega
   have hd9:d≤255:=by omega
   clear hd hx0;go_wp2_with (at_builtin;refine yan _ rfl _ _ 156 rfl 3 i0 _ 1 8 underlying156 Hi.out.1 Hi.out.2.1 Hi.out.2.2.1 Hi.out.2.2.2 rfl (by decide) _ _ _ rfl (yat Hrow.out.row (Keep.alloc [] _ _) (by simp)) ⟨wr.heap.size,0,none⟩ 1 1 [.int .i64 (d)] rfl rfl (yaP _ _ _) ?c2 (by decide) ?c3 ?c4 ?_)
   case c2=>first|(intro u hu;simp at hu;subst hu;rfl)|rfl
   case c3=>unfold maxLen;omega
   case c4=>omega
   intro g cap wa hoa hga hfa hda;have Hn:=jX (Hrow.out.step (d:=d) hoa hga hfa hda);clear hoa hga hfa hda;go_wp2_with fail;go_roundw
   case rel=>exact ⟨i+1,by omega,by go_num,by rw [← Hnext.out];exact congrArg (Value.int .i64) (by omega),l++[d],by rw [Hsn.out,← Hl.out],Hn.out⟩
   case measure=>simp [intOf];omega
  have hy0:=Hzb.out i hb;by_cases hc:carryA 256 i A B=0
  ·have hS:=yiS HLa.out HLb.out (by omega) (by omega) hc
   have HT:=jX (ydw wr _ l (by omega) Hrow.out.read Hrow.out.cap);have HS:=jX hS;rw [hc];clear hS hx0 hy0 hc y9;go_wp2_with fail;refine HT.out.mono ?_;rintro e w2 ⟨ht,rfl⟩;obtain⟨v,rfl,hdr⟩:=ybk ht (by rw [Hl.out];exact yjq (by decide) _ _);rw [Hl.out,yfl (by decide) _ _ HS.out] at hdr;have Hdr:=jX hdr;clear ht hdr HT;dsimp only;go_wp2_with fail;go_ret
   exact ⟨v,rfl,Hdr.out,Hrow.out.keep⟩
  have him:i≤max n m:=by
   rcases Nat.lt_or_ge (max n m) i with h|h
   ·exact absurd (yji HLa.out HLb.out h) hc
   exact h
  have Hnext:=jX (ybg (show 0<256 by decide) i A B)
  have hdg:=yaZ (show 0<256 by decide) i A B
  have hsn:=ydD 256 i (A+B);rw [← hdg] at hsn;have Hsn:=jX hsn;have hc1:=ybN (show 0<256 by decide) i A B
  clear hdg hsn;rw [hx0,hy0] at Hnext Hsn;have hcp:0<carryA 256 i A B:=by omega
  generalize carryA 256 i A B=c at *;obtain⟨d,hd⟩:∃ d,(c+0+0) % 256=d:=⟨_,rfl⟩;rw [hd] at Hsn;have hd2:(c:Int) % 256=(d:Int):=by omega
  have hd9:d≤255:=by omega
  clear hd hx0 hy0 y9 hc;go_wp2_with (at_builtin;refine yan _ rfl _ _ 156 rfl 3 i0 _ 1 8 underlying156 Hi.out.1 Hi.out.2.1 Hi.out.2.2.1 Hi.out.2.2.2 rfl (by decide) _ _ _ rfl (yat Hrow.out.row (Keep.alloc [] _ _) (by simp)) ⟨wr.heap.size,0,none⟩ 1 1 [.int .i64 (d)] rfl rfl (yaP _ _ _) ?c2 (by decide) ?c3 ?c4 ?_)
  case c2=>first|(intro u hu;simp at hu;subst hu;rfl)|rfl
  case c3=>unfold maxLen;omega
  case c4=>omega
  intro g cap wa hoa hga hfa hda;have Hn:=jX (Hrow.out.step (d:=d) hoa hga hfa hda);clear hoa hga hfa hda;go_wp2_with fail;go_roundw
  case rel=>exact ⟨i+1,by omega,by go_num,by rw [← Hnext.out];exact congrArg (Value.int .i64) (by omega),l++[d],by rw [Hsn.out,← Hl.out],Hn.out⟩
  case measure=>simp [intOf];omega
end Go.Proofs.YtpgffjjpiafhpaaGreatDoor
