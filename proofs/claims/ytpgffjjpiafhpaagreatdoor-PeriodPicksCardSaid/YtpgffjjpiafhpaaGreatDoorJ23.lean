/- Parts of a proof: Tf Iz Ts Tg. -/
import Derived.Deep.MidRow
import Derived.Test.YtpgffjjpiafhpaaGreatDoorJ22
import Derived.Test.YtpgffjjpiafhpaaGreatDoorJ02
import Derived.Test.YtpgffjjpiafhpaaGreatDoorJ11
import Derived.Test.YtpgffjjpiafhpaaGreatDoorJ19
set_option linter.unusedVariables false
set_option linter.unusedSimpArgs false
set_option maxRecDepth 100000
set_option maxHeartbeats 8000000
namespace Go.Proofs.YtpgffjjpiafhpaaGreatDoor
open Go.RowKit Tryz
section
open Classical
theorem infoIvB:(prog.info? 32).map (fun i=>(i.zero.map Value.cells,i.size,i.bytes))=some (some #[.bool false,.string ⟨#[]⟩,.bool false,.string ⟨#[]⟩,.bool false,.string ⟨#[]⟩,.bool false,.string ⟨#[]⟩,.bool false,.bool false,.string ⟨#[]⟩,.bool false,.string ⟨#[]⟩,.bool false,.string ⟨#[]⟩,.bool false,.string ⟨#[]⟩,.bool false,.bool false,.bool false],20,216):=by kernel_rfl
theorem iv_info:∃ i z,prog.info? 32=some i∧i.zero=some z∧i.size=20∧i.bytes=216∧z.cells = #[.bool false,.string ⟨#[]⟩,.bool false,.string ⟨#[]⟩,.bool false,.string ⟨#[]⟩,.bool false,.string ⟨#[]⟩,.bool false,.bool false,.string ⟨#[]⟩,.bool false,.string ⟨#[]⟩,.bool false,.string ⟨#[]⟩,.bool false,.string ⟨#[]⟩,.bool false,.bool false,.bool false]:=by
 have h:=infoIvB;cases hi:prog.info? 32 with
 | none=>rw [hi] at h;cases h
 | some i =>
  rw [hi] at h;simp only [Option.map_some,Option.some.injEq,Prod.mk.injEq] at h;obtain⟨h1,h2,h3⟩:=h;cases hz:i.zero with
  | none=>rw [hz] at h1;cases h1
  | some z =>
   rw [hz] at h1;injection h1 with h1;exact ⟨i,z,rfl,hz,h2,h3,h1⟩
theorem fill_i (f1 f4 f7 t1 t4 t7 o c:Bool) (f2 f3 f5 f6 t2 t3 t5 t6:ByteArray):Instr.fill (fun i=>some (i*20,20)) ((Array.range (1*20)).map ((#[.bool false,.string ⟨#[]⟩,.bool false,.string ⟨#[]⟩,.bool false,.string ⟨#[]⟩,.bool false,.string ⟨#[]⟩,.bool false,.bool false,.string ⟨#[]⟩,.bool false,.string ⟨#[]⟩,.bool false,.string ⟨#[]⟩,.bool false,.string ⟨#[]⟩,.bool false,.bool false,.bool false]:Array Value)[· % (#[.bool false,.string ⟨#[]⟩,.bool false,.string ⟨#[]⟩,.bool false,.string ⟨#[]⟩,.bool false,.string ⟨#[]⟩,.bool false,.bool false,.string ⟨#[]⟩,.bool false,.string ⟨#[]⟩,.bool false,.string ⟨#[]⟩,.bool false,.string ⟨#[]⟩,.bool false,.bool false,.bool false]:Array Value).size]!))
  #[(0, Value.agg #[.bool f1, .string f2, .bool false, .string f3, .bool f4, .string f5, .bool false, .string f6, .bool f7, .bool t1, .string t2, .bool false, .string t3, .bool t4, .string t5, .bool false, .string t6, .bool t7, .bool o, .bool c])].toList = some #[.bool f1, .string f2, .bool false, .string f3, .bool f4, .string f5, .bool false, .string f6, .bool f7, .bool t1, .string t2, .bool false, .string t3, .bool t4, .string t5, .bool false, .string t6, .bool t7, .bool o, .bool c] := by kernel_rfl
theorem ybu (x:Iv K) (w:World):(Instr.buildSlice 22 1 #[(0,iv x)]).run prog w = .ok (.slice (some ⟨w.heap.size,0,none⟩) 1 1) (w.alloc (.cells (iC x) 32)):=by
 obtain⟨i,z,hi,hz,hs,hb,hzc⟩:=iv_info;refine run_buildSlice (P:=prog) w 22 32 1 _ _ i z underlying22 hi hz (by rw [hs];decide) (by rw [hs];decide) ?_;rw [hs,hzc,ycD];exact fill_i _ _ _ _ _ _ _ _ _ _ _ _ _ _ _ _
abbrev OI_:=OE (fun i:Iv K=>icells i) 32 20
theorem IvR.app {ty:TypeId} {w0 w:World} {v y:Value} {l m:List (Iv K)} (h:OI_ w0 w v l) (hv:v.ownBlock≠none∨0<m.length) (hy:IvR w y m) (hb:l.length+m.length≤1000000000) :
  ∃ v' w',(Builtin.append_ #[22,22] ty #[v,y]).run prog w = .ok v' w'∧OI_ w0 w' v' (l++m)∧v'.ownBlock≠none∧∀ F,(∀ g,v.ownBlock=some g→g∈F)→Keep F w w':=by
 obtain⟨i,z,hi,hz,hs,hbt,hzc⟩:=iv_info;exact OE.app (P:=prog) (bytes:=216) underlying22 hi hz hs hbt (by rw [hzc];rfl) (by decide) ybI ybU h hv hy (by unfold maxLen;omega) (by omega)
theorem OI_.start (w:World):∃ u g,w.alloc (.cells #[] 32)=u∧w.heap.size=g∧u.heap.size=g+1∧OI_ w u (.slice (some ⟨g,0,none⟩) 0 0) []:=⟨_,_,rfl,rfl,by simp,OE.empty w⟩
theorem IvR.single (x:Iv K) (w:World):∃ u g,w.alloc (.cells (iC x) 32)=u∧w.heap.size=g∧u.heap.size=g+1∧Keep [] w u∧IvR u (.slice (some ⟨g,0,none⟩) 1 1) [x]:=by
 refine ⟨_,_,rfl,rfl,by simp,Keep.alloc [] w _,.inr ⟨w.heap.size,0,1,rfl,Nat.le_refl _,by simp,fun i v hv=>?_⟩⟩;exact ybc (World.alloc_heap_new w (.cells (iC x) 32)) i v (by simpa using hv)
section
variable {P:Program}
theorem yfu {ops:Array Oper} {rest:List Oper} {o:Oper} {a:Act} {w:World} {Q:Exit→Act→World→Prop} (hgd:o.guard=none) (v:Value) (w':World) (h:(execOp a.eval o).run P w = .ok (.value v) w') (hk:wpList P ops Q rest (a.put o.dst v) w'):wpList P ops Q (o :: rest) a w :=
 wpList_plain hgd fun K hK=>ybD v w' h (hK _ _ hk)
theorem yaU {ops:Array Oper} {rest:List Oper} {o:Oper} {a:Act} {w w':World} {v:Value} {Q:Exit→Act→World→Prop} (hgd:o.guard=none) (h:(execOp a.eval o).run P w = .ok (.value v) w') (hk:∀ K:Act→World→Prop,(∀ a w,wpList P ops Q rest a w→K a w)→K (a.put o.dst v) w'):wpList P ops Q (o :: rest) a w :=
 yfu hgd v w' h (hk _ fun _ _ h=>h)
theorem ygh {ops:Array Oper} {rest:List Oper} {o:Oper} {a:Act} {w:World} {v:Value} {Q:Exit→Act→World→Prop} (hgd:o.guard=none) (h:(execOp a.eval o).run P w = .ok (.value v) w) (hk:∀ K:Act→World→Prop,(∀ a w,wpList P ops Q rest a w→K a w)→K (a.put o.dst v) w):wpList P ops Q (o :: rest) a w :=
 yfu hgd v w h (hk _ fun _ _ h=>h)
theorem yam {o:Oper} {ev:Operand→Value} {w:World} (t:TypeId) (parts:Array (Nat × Operand)) (parts':Array (Nat × Value)) (cells:Array Value) (ho:o.op = .build t parts) (hp:(parts.map fun (i,x)=>(i,ev x))=parts') (h:P.built t parts'.toList=some cells):(execOp ev o).run P w = .ok (.value (.agg cells)) w:=by
 unfold execOp;simp only [ho,hp,Sem.run_bind,Sem.run_pure,Result.andThen_ok,run_build w t parts' cells h]
theorem yaM {ops:Array Oper} {rest:List Oper} {o:Oper} {a:Act} {w:World} {Q:Exit→Act→World→Prop} (hgd:o.guard=none) (ty:TypeId) (x y:Operand) (ho:o.op = .store ty x y)
  (g:Nat) (cells:Array Value) (hx:a.eval x = .pointer (some ⟨g,0,none⟩)) (hy:a.eval y = .agg cells)
  (t:TypeId) (old:Array Value) (hg:w.heap[g]? = some (.cells old t (0,0))) (hi:(P.info? ty).map (·.size)=some cells.size)
  (hold:old.size=cells.size) (h1:cells.all (·.oneCell')=true)
  (h:∀ K:Act→World→Prop,(∀ a w,wpList P ops Q rest a w→K a w)→K (a.put o.dst undef) (w.setRow g cells)):wpList P ops Q (o :: rest) a w :=
 wpList_store_row hgd ty x y ho g cells hx hy t old hg hi hold h1 (h _ fun _ _ h=>h)
theorem yfn {ops:Array Oper} {rest:List Oper} {o:Oper} {a:Act} {w:World} {Q:Exit→Act→World→Prop} (hgd:o.guard=none) (ty:TypeId) (x y:Operand) (ho:o.op = .store ty x y)
  (b i:Nat) (cells:Array Value) (hx:a.eval x = .pointer (some ⟨b,i,none⟩)) (hy:a.eval y = .agg cells) (ht:w.there b i cells.size) (hi:(P.info? ty).map (·.size)=some cells.size) (h1:cells.all (·.oneCell')=true)
  (h:∀ K:Act→World→Prop,(∀ a w,wpList P ops Q rest a w→K a w)→K (a.put o.dst undef) (w.setCells b i cells.toList)):wpList P ops Q (o :: rest) a w :=
 wpList_store_mid hgd ty x y ho b i cells hx hy ht hi h1 (h _ fun _ _ h=>h)
theorem yes {w:World} {g:Nat} {cs:Array Value} {t:TypeId} (h:w.heap[g]? = some (.cells cs t (0,0))) (o n:Nat) (hn:o+n≤cs.size):w.there g o n:=fun j hj =>
 ⟨by rw [yab h,Array.getElem?_eq_getElem (by omega)];rfl,yae h _⟩
def putAt (cs:Array Value) (o:Nat):List Value→Array Value
 | []=>cs
 | v :: r=>putAt (cs.setIfInBounds o v) (o+1) r
theorem ybG {g:Nat} {t:TypeId}:∀ (vs:List Value) (o:Nat) (cs:Array Value) (w:World),w.heap[g]? = some (.cells cs t (0,0))→(w.setCells g o vs).heap[g]? = some (.cells (putAt cs o vs) t (0,0))∧Keep [g] w (w.setCells g o vs)
 | [],_,_,w,h=>⟨h,Keep.refl _ w⟩
 | v :: r,o,cs,w,h=>by
  obtain⟨h1,h2⟩:=ybG r (o+1) _ _ (set_same h o v);exact ⟨h1,(Keep.setCell [g] w g o v (by simp)).trans h2 (by simp)⟩
theorem yaD {w:World} {g:Nat} {old cs:Array Value} {t:TypeId} (h:w.heap[g]? = some (.cells old t (0,0))):∃ W,w.setRow g cs=W∧W.heap[g]? = some (.cells cs t (0,0))∧Keep [g] w W:=by
 refine ⟨_,rfl,?_,⟨rfl,rfl,rfl,by simp [World.setRow],Nat.le_refl _,fun k hk hn=>?_⟩⟩
 ·simp [World.setRow,Array.getElem?_modify,h]
 simp only [World.setRow,Array.getElem?_modify];rw [if_neg (by intro e;subst e;simp at hn)]
end
theorem k_size:(prog.info? 30).map (·.size)=some 9:=by
 obtain⟨i,z,hi,hz,hs,hb,hzc⟩:=real_info;rw [hi];exact congrArg some hs
theorem yct (x:Iv K):(prog.info? 32).map (·.size)=some (iC x).size:=by
 obtain⟨i,z,hi,hz,hs,hb,hzc⟩:=iv_info;rw [hi];exact congrArg some hs
theorem yeI (x:Iv K):(iC x).all (·.oneCell')=true:=all_oneCell_toArray (ybU x)
end
section
variable {P:Program} {ops:Array Oper} {Q:Exit→Act→World→Prop} {rest:List Oper} {o:Oper} {a:Act} {w:World}
theorem gWC (hw:Region.wanted o (yielded ops a.tmps)=true)
  (h:∀ K:Act→World→Prop,(∀ a w,wpList P ops Q rest a w→K a w)→o.wp P a w K Q):wpList P ops Q (o :: rest) a w:=by
 unfold wpList;rw [if_pos hw];exact .inl (h _ fun _ _ h=>h)
theorem gWE (hw:Region.wanted o (yielded ops a.tmps)=true)
  (h:∃ v,(execOp a.eval o).run P w = .ok (.value v) w∧∀ K:Act→World→Prop,(∀ a w,wpList P ops Q rest a w→K a w)→K (a.put o.dst v) w):wpList P ops Q (o :: rest) a w:=by
 obtain⟨v,h1,h2⟩:=h;exact gWC hw fun K hK=>ybD v w h1 (h2 K hK)
theorem gWS (hw:Region.wanted o (yielded ops a.tmps)=false)
  (h:∀ K:Act→World→Prop,(∀ a w,wpList P ops Q rest a w→K a w)→K (a.put o.dst undef) w):wpList P ops Q (o :: rest) a w:=by
 unfold wpList;rw [hw];exact h _ fun _ _ h=>h
end
theorem yaq {P:Program} {a:Act} {o:Oper} {w:World} (n:FuncId) (args:Array Operand) (ts:Array TypeId) (vals:Array Value) (ho:o.op = .call ⟨.value (.func n),args,ts⟩) (hv:args.map a.eval=vals) (hc:(callFunc n vals).run P w = .ok (.enter n vals) w):(execOp a.eval o).run P w = .ok (.enter n vals) w:=by
 unfold execOp;simp only [ho];go_simp
section
variable {P:Program} {ops:Array Oper} {md:Region.Mode} {Q:Exit→Act→World→Prop} {V w:World} {n f:Nat} {L:Array Bool→Act→World→Prop} {listed:Array Bool} {a:Act} {o:Oper} {v:Value} {S:World→Prop} {t:TypeId} {x:Operand} {args:Array Operand} {ts:Array TypeId} {rest:List Oper}
theorem tV (i:Nat) (hS:S w) (h2:Fn (fun a=>yav P md ops Q S n L f (listed.setIfInBounds i true) a w) () (a.put o.dst v))
  (ho:ops[i]? = some o:=by rfl) (h1:∀ w,S w→(execOp a.eval o).run P w = .ok (.value v) w:=by (intro w hw;go_simp;try rfl)) (hi:i<n:=by decide) (hf:Region.free md ops listed i=true:=by kernel_rfl) (hr:(Region.ready md ops listed).contains i=true:=by kernel_rfl) (hg:Region.wanted o (yielded ops a.tmps)=true:=by rfl):yav P md ops Q S n L (f+1) listed a w :=
 yaF i ho hi hf hr hg hS h1 (fK h2)
theorem tX (i:Nat) (ad:Addr) (hS:S w) (h:∀ w,S w→(loadVar t ad).run P w = .ok v w) (h2:Fn (fun a=>yav P md ops Q S n L f (listed.setIfInBounds i true) a w) () (a.put o.dst v))
  (ho:ops[i]? = some o:=by rfl) (ho2:o.op = .load t x:=by rfl) (hx:a.eval x = .pointer (some ad):=by rfl) (hi:i<n:=by decide) (hf:Region.free md ops listed i=true:=by kernel_rfl) (hr:(Region.ready md ops listed).contains i=true:=by kernel_rfl) (hg:Region.wanted o (yielded ops a.tmps)=true:=by rfl):yav P md ops Q S n L (f+1) listed a w :=
 yaF i ho hi hf hr hg hS (fun w hw=>ybw _ _ ad _ ho2 hx (h w hw)) (fK h2)
theorem tS (i:Nat) (hS:S w) (h2:Fn (fun a=>yav P md ops Q S n L f (listed.setIfInBounds i true) a w) () (a.put o.dst undef))
  (ho:ops[i]? = some o:=by rfl) (hi:i<n:=by decide) (hf:Region.free md ops listed i=true:=by kernel_rfl) (hr:(Region.ready md ops listed).contains i=true:=by kernel_rfl) (hg:Region.wanted o (yielded ops a.tmps)=false:=by rfl):yav P md ops Q S n L (f+1) listed a w :=
 yfy i ho hi hf hr hg hS (fK h2)
theorem tQ (i:Nat) (fn:FuncId) (vals:Array Value) (hS:Keep [] V w) (H:Calls P fn vals w fun e w'=>e = .returned v∧Keep [] w w') (h2:∀ w',Keep [] V w'→Fn (fun a=>yav P md ops Q (fun u=>Keep [] V u) n L f (listed.setIfInBounds i true) a w') () (a.put o.dst v))
  (ho:ops[i]? = some o:=by rfl) (ho2:o.op = .call ⟨.value (.func fn),args,ts⟩:=by rfl) (hv:args.map a.eval=vals:=by (simp only [List.map_toArray,List.map_cons,List.map_nil]<;>rfl)) (hc:(callFunc fn vals).run P w = .ok (.enter fn vals) w:=by rfl) (hi:i<n:=by decide) (hr:Region.ready md ops listed=[i]:=by kernel_rfl) (hg:Region.wanted o (yielded ops a.tmps)=true:=by rfl):yav P md ops Q (fun u=>Keep [] V u) n L (f+1) listed a w:=by
 refine ydf i hr hi ho hg (fun K hK=>?_);refine yag fn vals (yaq _ _ _ _ ho2 hv hc) ?_;refine H.mono ?_;rintro e w' ⟨rfl,hb⟩;exact ⟨v,rfl,fK (h2 w' (hS.tz hb)) (fun a=>K a w') (fun a h=>hK a w' (hS.tz hb) h)⟩
theorem uQ (i:Nat) (fn:FuncId) (vals:Array Value) (hS:Below V.heap.size V w) (H:Calls P fn vals w fun e w'=>e = .returned v∧Keep [] w w') (h2:∀ w',Below V.heap.size V w'→Below w.heap.size w w'→Fn (fun a=>yav P md ops Q (fun u=>Below V.heap.size V u) n L f (listed.setIfInBounds i true) a w') () (a.put o.dst v))
  (ho:ops[i]? = some o:=by rfl) (ho2:o.op = .call ⟨.value (.func fn),args,ts⟩:=by rfl) (hv:args.map a.eval=vals:=by (simp only [List.map_toArray,List.map_cons,List.map_nil]<;>rfl)) (hc:(callFunc fn vals).run P w = .ok (.enter fn vals) w:=by rfl) (hi:i<n:=by decide) (hr:Region.ready md ops listed=[i]:=by kernel_rfl) (hg:Region.wanted o (yielded ops a.tmps)=true:=by rfl):yav P md ops Q (fun u=>Below V.heap.size V u) n L (f+1) listed a w:=by
 refine ydf i hr hi ho hg (fun K hK=>?_);refine yag fn vals (yaq _ _ _ _ ho2 hv hc) ?_;refine H.mono ?_;rintro e w' ⟨rfl,hb⟩;have hb:=hb.bz;have hS:=Below.trans hS (Below.mono hb hS.size);exact ⟨v,rfl,fK (h2 w' hS hb) (fun a=>K a w') (fun a h=>hK a w' hS h)⟩
theorem uR (i:Nat) (fn:FuncId) (vals:Array Value) (hS:Below V.heap.size V w) (H:Calls P fn vals w fun e w'=>e = .returned v∧Below w.heap.size w w') (h2:∀ w',Below V.heap.size V w'→Below w.heap.size w w'→Fn (fun a=>yav P md ops Q (fun u=>Below V.heap.size V u) n L f (listed.setIfInBounds i true) a w') () (a.put o.dst v))
  (ho:ops[i]? = some o:=by rfl) (ho2:o.op = .call ⟨.value (.func fn),args,ts⟩:=by rfl) (hv:args.map a.eval=vals:=by (simp only [List.map_toArray,List.map_cons,List.map_nil]<;>rfl)) (hc:(callFunc fn vals).run P w = .ok (.enter fn vals) w:=by rfl) (hi:i<n:=by decide) (hr:Region.ready md ops listed=[i]:=by kernel_rfl) (hg:Region.wanted o (yielded ops a.tmps)=true:=by rfl):yav P md ops Q (fun u=>Below V.heap.size V u) n L (f+1) listed a w:=by
 refine ydf i hr hi ho hg (fun K hK=>?_);refine yag fn vals (yaq _ _ _ _ ho2 hv hc) ?_;refine H.mono ?_;rintro e w' ⟨rfl,hb⟩;have hS:=Below.trans hS (Below.mono hb hS.size);exact ⟨v,rfl,fK (h2 w' hS hb) (fun a=>K a w') (fun a h=>hK a w' hS h)⟩
theorem tU (i:Nat) (hS:S w) (h1:∀ w,S w→(execOp a.eval o).run P w = .ok (.value v) w) (h2:Fn (fun a=>yav P md ops Q S n L f (listed.setIfInBounds i true) a w) () (a.put o.dst v))
  (ho:ops[i]? = some o:=by rfl) (hi:i<n:=by decide) (hf:Region.free md ops listed i=true:=by kernel_rfl) (hr:(Region.ready md ops listed).contains i=true:=by kernel_rfl) (hg:Region.wanted o (yielded ops a.tmps)=true:=by rfl):yav P md ops Q S n L (f+1) listed a w :=
 yaF i ho hi hf hr hg hS h1 (fK h2)
theorem tB {parts:Array (Nat × Operand)} {cells:Array Value} (i:Nat) (parts':Array (Nat × Value)) (hS:S w) (hb:P.built t parts'.toList=some cells) (h2:Fn (fun a=>yav P md ops Q S n L f (listed.setIfInBounds i true) a w) () (a.put o.dst (.agg cells)))
  (ho:ops[i]? = some o:=by rfl) (ho2:o.op = .build t parts:=by rfl) (hp:(parts.map fun (i,x)=>(i,a.eval x))=parts':=by (simp only [List.map_toArray,List.map_cons,List.map_nil]<;>rfl)) (hi:i<n:=by decide) (hf:Region.free md ops listed i=true:=by kernel_rfl) (hr:(Region.ready md ops listed).contains i=true:=by kernel_rfl) (hg:Region.wanted o (yielded ops a.tmps)=true:=by rfl):yav P md ops Q S n L (f+1) listed a w :=
 yaF i ho hi hf hr hg hS (fun w hw=>yam t parts parts' cells ho2 hp hb) (fK h2)
theorem pK {T:Act→World→Prop} {K:Act→World→Prop} (fn:FuncId) (vals:Array Value) (hK:∀ a w,S w→T a w→K a w) (H:Calls P fn vals w fun e w'=>e = .returned v∧Keep [] w w') (h2:∀ w',Keep [] w w'→∀ K':Act→Prop,(∀ a,S w'→T a w'→K' a)→K' (a.put o.dst v))
  (ho2:o.op = .call ⟨.value (.func fn),args,ts⟩:=by rfl) (hv:args.map a.eval=vals:=by (simp only [List.map_toArray,List.map_cons,List.map_nil]<;>rfl)) (hc:(callFunc fn vals).run P w = .ok (.enter fn vals) w:=by rfl):o.wp P a w K Q:=by
 refine yag fn vals (yaq _ _ _ _ ho2 hv hc) ?_;refine H.mono ?_;rintro e w' ⟨rfl,hb⟩;exact ⟨v,rfl,h2 w' hb (fun a=>K a w') (fun a h1 h=>hK a w' h1 h)⟩
theorem wE {R:World→Prop} (fn:FuncId) (vals:Array Value) (H:Calls P fn vals w fun e w'=>e = .returned v∧R w') (h2:∀ w',R w'→Fn (fun a=>wpList P ops Q rest a w') () (a.put o.dst v))
  (hg:o.guard=none:=by rfl) (ho2:o.op = .call ⟨.value (.func fn),args,ts⟩:=by rfl) (hv:args.map a.eval=vals:=by (simp only [List.map_toArray,List.map_cons,List.map_nil]<;>rfl)) (hc:(callFunc fn vals).run P w = .ok (.enter fn vals) w:=by rfl):wpList P ops Q (o :: rest) a w:=by
 refine wpList_plain hg (fun K hK=>?_);refine yag fn vals (yaq _ _ _ _ ho2 hv hc) ?_;refine H.mono ?_;rintro e w' ⟨rfl,hb⟩;exact ⟨v,rfl,fK (h2 w' hb) (fun a=>K a w') (fun a h=>hK a w' h)⟩
theorem gE {R:World→Prop} (fn:FuncId) (vals:Array Value) (H:Calls P fn vals w fun e w'=>e = .returned v∧R w') (h2:∀ w',R w'→Fn (fun a=>wpList P ops Q rest a w') () (a.put o.dst v))
  (hg:Region.wanted o (yielded ops a.tmps)=true:=by rfl) (ho2:o.op = .call ⟨.value (.func fn),args,ts⟩:=by rfl) (hv:args.map a.eval=vals:=by (simp only [List.map_toArray,List.map_cons,List.map_nil]<;>rfl)) (hc:(callFunc fn vals).run P w = .ok (.enter fn vals) w:=by rfl):wpList P ops Q (o :: rest) a w:=by
 refine gWC hg (fun K hK=>?_);refine yag fn vals (yaq _ _ _ _ ho2 hv hc) ?_;refine H.mono ?_;rintro e w' ⟨rfl,hb⟩;exact ⟨v,rfl,fK (h2 w' hb) (fun a=>K a w') (fun a h=>hK a w' h)⟩
theorem gV (h2:Fn (fun a=>wpList P ops Q rest a w) () (a.put o.dst v)) (hg:Region.wanted o (yielded ops a.tmps)=true:=by rfl) (h1:(execOp a.eval o).run P w = .ok (.value v) w:=by (go_simp;try rfl)):wpList P ops Q (o :: rest) a w :=
 gWE hg ⟨v,h1,fun K hK=>fK h2 (fun a=>K a w) (fun a h=>hK a w h)⟩
theorem gU (h1:(execOp a.eval o).run P w = .ok (.value v) w) (h2:Fn (fun a=>wpList P ops Q rest a w) () (a.put o.dst v)) (hg:Region.wanted o (yielded ops a.tmps)=true:=by rfl):wpList P ops Q (o :: rest) a w :=
 gWE hg ⟨v,h1,fun K hK=>fK h2 (fun a=>K a w) (fun a h=>hK a w h)⟩
theorem gX (ad:Addr) (h:(loadVar t ad).run P w = .ok v w) (h2:Fn (fun a=>wpList P ops Q rest a w) () (a.put o.dst v)) (hg:Region.wanted o (yielded ops a.tmps)=true:=by rfl) (ho2:o.op = .load t x:=by rfl) (hx:a.eval x = .pointer (some ad):=by rfl):wpList P ops Q (o :: rest) a w :=
 gWE hg ⟨v,ybw _ _ ad _ ho2 hx h,fun K hK=>fK h2 (fun a=>K a w) (fun a h=>hK a w h)⟩
theorem gS (h2:Fn (fun a=>wpList P ops Q rest a w) () (a.put o.dst undef)) (hg:Region.wanted o (yielded ops a.tmps)=false:=by rfl):wpList P ops Q (o :: rest) a w :=
 gWS hg fun K hK=>fK h2 (fun a=>K a w) (fun a h=>hK a w h)
theorem wV (h2:Fn (fun a=>wpList P ops Q rest a w) () (a.put o.dst v)) (hg:o.guard=none:=by rfl) (h1:(execOp a.eval o).run P w = .ok (.value v) w:=by (go_simp;try rfl)):wpList P ops Q (o :: rest) a w :=
 ygh hg h1 fun K hK=>fK h2 (fun a=>K a w) (fun a h=>hK a w h)
theorem wU (h1:(execOp a.eval o).run P w = .ok (.value v) w) (h2:Fn (fun a=>wpList P ops Q rest a w) () (a.put o.dst v)) (hg:o.guard=none:=by rfl):wpList P ops Q (o :: rest) a w :=
 ygh hg h1 fun K hK=>fK h2 (fun a=>K a w) (fun a h=>hK a w h)
theorem wX (ad:Addr) (h:(loadVar t ad).run P w = .ok v w) (h2:Fn (fun a=>wpList P ops Q rest a w) () (a.put o.dst v)) (hg:o.guard=none:=by rfl) (ho2:o.op = .load t x:=by rfl) (hx:a.eval x = .pointer (some ad):=by rfl):wpList P ops Q (o :: rest) a w :=
 ygh hg (ybw _ _ ad _ ho2 hx h) fun K hK=>fK h2 (fun a=>K a w) (fun a h=>hK a w h)
theorem wR {ty u:TypeId} {y:Operand} {old:Array Value} (g:Nat) (cs:Array Value) (hg:w.heap[g]? = some (.cells old u (0,0))) (hi:(P.info? ty).map (·.size)=some cs.size) (hold:old.size=cs.size) (h1:cs.all (·.oneCell')=true)
  (h2:∀ w',w'.heap[g]? = some (.cells cs u (0,0))→Keep [g] w w'→Fn (fun a=>wpList P ops Q rest a w') () (a.put o.dst undef)) (hgd:o.guard=none:=by rfl) (ho:o.op = .store ty x y:=by rfl) (hx:a.eval x = .pointer (some ⟨g,0,none⟩):=by rfl) (hy:a.eval y = .agg cs:=by rfl):wpList P ops Q (o :: rest) a w:=by
 refine yaM hgd ty x y ho g cs hx hy u old hg hi hold h1 (fun K hK=>?_);obtain⟨w',e,b,k⟩:=yaD (cs:=cs) hg;rw [e];exact fK (h2 w' b k) (fun a=>K a w') (fun a h=>hK a w' h)
theorem wA {z:Obj} (h:(execOp a.eval o).run P w = .ok (.value (.pointer (some ⟨w.heap.size,0,none⟩))) (w.alloc z))
  (h2:∀ W g,w.heap.size=g→W.heap[g]? = some z→w.heap.size≤g→g<W.heap.size→Keep [] w W→Fn (fun a=>wpList P ops Q rest a W) () (a.put o.dst (.pointer (some ⟨g,0,none⟩)))) (hgd:o.guard=none:=by rfl):wpList P ops Q (o :: rest) a w :=
 yaU hgd h fun K hK=>fK (h2 (w.alloc z) w.heap.size rfl (World.alloc_heap_new w z) (Nat.le_refl _) (by simp) (Keep.alloc [] w z)) (fun a=>K a (w.alloc z)) (fun a h=>hK a _ h)
end
theorem share1 {H:Prop} {P:Program} {md:Region.Mode} {ops:Array Oper} {Q:Exit→Act→World→Prop} {S:World→Prop} {n:Nat} {L:Array Bool→Act→World→Prop} {f:Nat} (A:Nat→Act) (Ls:Array Bool) (F:World→Nat→Prop)
  (tr:(∀ ls x g,ls=Ls→F x g→yav P md ops Q S n L f ls (A g) x)→H) (ky:∀ x g,F x g→yav P md ops Q S n L f Ls (A g) x):H:=tr fun ls x g h hF=>by
 subst h;exact ky x g hF
theorem share2 {H:Prop} {P:Program} {md:Region.Mode} {ops:Array Oper} {Q:Exit→Act→World→Prop} {S:World→Prop} {n:Nat} {L:Array Bool→Act→World→Prop} {f:Nat} (A:Nat→Nat→Act) (Ls:Array Bool) (F:World→Nat→Nat→Prop)
  (tr:(∀ ls x g k,ls=Ls→F x g k→yav P md ops Q S n L f ls (A g k) x)→H) (ky:∀ x g k,F x g k→yav P md ops Q S n L f Ls (A g k) x):H:=tr fun ls x g k h hF=>by
 subst h;exact ky x g k hF
def bcells (b:Bd K):List Value:=kcells b.pt.1++[.bool b.beh]
def bv (b:Bd K):Value:=.agg (bcells b).toArray
theorem yeu (b:Bd K):bv b = .agg #[.bool (sgB b.pt.1.p.num),.string (mgS b.pt.1.p.num),.bool false,.string (dnS b.pt.1.p.den),.bool (sgB b.pt.1.r.num),.string (mgS b.pt.1.r.num),.bool false,.string (dnS b.pt.1.r.den),.bool b.pt.1.neg,.bool b.beh]:=rfl
theorem yek (f1 f4 f7 o:Bool) (f2 f3 f5 f6:ByteArray):prog.built 114 [(0,.agg #[.bool f1,.string f2,.bool false,.string f3,.bool f4,.string f5,.bool false,.string f6,.bool f7]),(1,.bool o)]=some #[.bool f1,.string f2,.bool false,.string f3,.bool f4,.string f5,.bool false,.string f6,.bool f7,.bool o]:=by kernel_rfl
theorem yeB (f1 f4 f7 t1 t4 t7 o c:Bool) (f2 f3 f5 f6 t2 t3 t5 t6:ByteArray):prog.built 32 [(0,.agg #[.bool f1,.string f2,.bool false,.string f3,.bool f4,.string f5,.bool false,.string f6,.bool f7]),(1,.agg #[.bool t1,.string t2,.bool false,.string t3,.bool t4,.string t5,.bool false,.string t6,.bool t7]),(2,.bool o),(3,.bool c)]=some #[.bool f1,.string f2,.bool false,.string f3,.bool f4,.string f5,.bool false,.string f6,.bool f7,.bool t1,.string t2,.bool false,.string t3,.bool t4,.string t5,.bool false,.string t6,.bool t7,.bool o,.bool c]:=by kernel_rfl
theorem yhD (i:Iv K) (w:World):Calls prog 77 #[iv i] w fun e w'=>e = .returned (bv i.f)∧Keep [] w w':=by
 rw [ycD,yeu];generalize sgB (i.f.pt.1).p.num=f1 at *;generalize mgS (i.f.pt.1).p.num=f2 at *;generalize dnS (i.f.pt.1).p.den=f3 at *;generalize sgB (i.f.pt.1).r.num=f4 at *;generalize mgS (i.f.pt.1).r.num=f5 at *;generalize dnS (i.f.pt.1).r.den=f6 at *;generalize (i.f.pt.1).neg=f7 at *;generalize sgB (i.l.pt.1).p.num=t1 at *;generalize mgS (i.l.pt.1).p.num=t2 at *;generalize dnS (i.l.pt.1).p.den=t3 at *;generalize sgB (i.l.pt.1).r.num=t4 at *;generalize mgS (i.l.pt.1).r.num=t5 at *;generalize dnS (i.l.pt.1).r.den=t6 at *;generalize (i.l.pt.1).neg=t7 at *;generalize i.f.beh=o at *;generalize (!i.l.beh)=c at *;have hbd:=fun w=>run_build (P:=prog) w 114 #[(0,.agg #[.bool f1,.string f2,.bool false,.string f3,.bool f4,.string f5,.bool false,.string f6,.bool f7]),(1,.bool o)] _ (yek _ _ _ _ _ _ _ _);go_enter func77,ntmps77
 go_upto_region 1 with (fail)
 obtain⟨W,ga,gb,hW,ega,egb,Bga,Bgb,hga,hgb,hgW,HkW⟩:=al2h w (.cells #[.bool f1,.string f2,.bool false,.string f3,.bool f4,.string f5,.bool false,.string f6,.bool f7,.bool t1,.string t2,.bool false,.string t3,.bool t4,.string t5,.bool false,.string t6,.bool t7,.bool o,.bool c] 32) (.cells #[.bool false,.string ⟨#[]⟩,.bool false,.string ⟨#[]⟩,.bool false,.string ⟨#[]⟩,.bool false,.string ⟨#[]⟩,.bool false,.bool false] 114);rw [← hW];try rw [egb]
 try rw [ega]
 clear hW ega egb;obtain⟨pga,fga,lga⟩:=jQ Bga;obtain⟨pgb,fgb,lgb⟩:=jQ Bgb;go_wp2_with fail;refine bodyPost_ret (v:=.agg #[.bool f1,.string f2,.bool false,.string f3,.bool f4,.string f5,.bool false,.string f6,.bool f7,.bool o]) ?_ rfl ⟨rfl,by repeat (first|(with_reducible exact HkW.out)|(refine Keep.sP ?_ _ _ _ (by omega))|(refine Keep.aP ?_ _)|(refine Keep.dP ?_))⟩;rw [yac rfl];go_simp
theorem last_c (i:Iv K) (w:World):Calls prog 78 #[iv i] w fun e w'=>e = .returned (bv i.l)∧Keep [] w w':=by
 have hn:i.l.beh = !(!i.l.beh):=by simp
 rw [ycD,yeu,hn];rw [← hn];generalize sgB (i.f.pt.1).p.num=f1 at *;generalize mgS (i.f.pt.1).p.num=f2 at *;generalize dnS (i.f.pt.1).p.den=f3 at *;generalize sgB (i.f.pt.1).r.num=f4 at *;generalize mgS (i.f.pt.1).r.num=f5 at *;generalize dnS (i.f.pt.1).r.den=f6 at *;generalize (i.f.pt.1).neg=f7 at *;generalize sgB (i.l.pt.1).p.num=t1 at *;generalize mgS (i.l.pt.1).p.num=t2 at *;generalize dnS (i.l.pt.1).p.den=t3 at *;generalize sgB (i.l.pt.1).r.num=t4 at *;generalize mgS (i.l.pt.1).r.num=t5 at *;generalize dnS (i.l.pt.1).r.den=t6 at *;generalize (i.l.pt.1).neg=t7 at *;clear hn;generalize i.f.beh=o at *;generalize i.l.beh=c at *;have hbd:=fun w=>run_build (P:=prog) w 114 #[(0,.agg #[.bool t1,.string t2,.bool false,.string t3,.bool t4,.string t5,.bool false,.string t6,.bool t7]),(1,.bool c)] _ (yek _ _ _ _ _ _ _ _);go_enter func78,ntmps78
 go_upto_region 1 with (fail)
 obtain⟨W,ga,gb,hW,ega,egb,Bga,Bgb,hga,hgb,hgW,HkW⟩:=al2h w (.cells #[.bool f1,.string f2,.bool false,.string f3,.bool f4,.string f5,.bool false,.string f6,.bool f7,.bool t1,.string t2,.bool false,.string t3,.bool t4,.string t5,.bool false,.string t6,.bool t7,.bool o,.bool (!c)] 32) (.cells #[.bool false,.string ⟨#[]⟩,.bool false,.string ⟨#[]⟩,.bool false,.string ⟨#[]⟩,.bool false,.string ⟨#[]⟩,.bool false,.bool false] 114);rw [← hW];try rw [egb]
 try rw [ega]
 clear hW ega egb;obtain⟨pga,fga,lga⟩:=jQ Bga;obtain⟨pgb,fgb,lgb⟩:=jQ Bgb;go_wp2_with fail;refine bodyPost_ret (v:=.agg #[.bool t1,.string t2,.bool false,.string t3,.bool t4,.string t5,.bool false,.string t6,.bool t7,.bool c]) ?_ rfl ⟨rfl,by repeat (first|(with_reducible exact HkW.out)|(refine Keep.sP ?_ _ _ _ (by omega))|(refine Keep.aP ?_ _)|(refine Keep.dP ?_))⟩;rw [yac rfl];go_simp
theorem iv_built' (a b:Bd K):prog.built 32 [(0,kv a.pt),(1,kv b.pt),(2,.bool a.beh),(3,.bool (!b.beh))]=some (iC ⟨a,b⟩):=yeB _ _ _ _ _ _ _ _ _ _ _ _ _ _ _ _
def bC (b:Bd K):Array Value:=(bcells b).toArray
theorem bAt_pt {w:World} {g:Nat} {b:Bd K} {t:TypeId} (h:w.heap[g]? = some (.cells (bC b) t)):KAt w g 0 b.pt.1:=fun k v hk=>by
 rw [Nat.zero_add,yab h];refine (List.getElem?_toArray ..).trans ?_;unfold bcells;rw [List.getElem?_append_left (List.getElem?_eq_some_iff.1 hk).1];exact hk
theorem bAt_beh {w:World} {g:Nat} {b:Bd K} {t:TypeId} (h:w.heap[g]? = some (.cells (bC b) t)):w.cell? ⟨g,9,none⟩=some (.bool b.beh):=by
 rw [yab h];rfl
theorem between_c (a b:Bd K) (w:World):Calls prog 164 #[bv a,bv b] w fun e w'=>e = .returned (iv ⟨a,b⟩)∧Keep [] w w':=by
 show Calls prog 164 #[.agg (bC a),.agg (bC b)] w _
 have HA:=jX (fun w g=>@bAt_pt w g a 114);have HB:=jX (fun w g=>@bAt_pt w g b 114);have HA2:=jX (fun w g=>@bAt_beh w g a 114);have HB2:=jX (fun w g=>@bAt_beh w g b 114);have HI:=jX (iv_built' a b);have HS:=jX (yct ⟨a,b⟩);have HO:=jX (yeI ⟨a,b⟩);have HL:=jX (fun w g (h:w.heap[g]? = some (.cells (iC ⟨a,b⟩) 32))=>ydo w g 0 ⟨a,b⟩ (ybc h));have Hsz:Hid ((iC ⟨a,b⟩).size=20):=rfl;generalize iv ⟨a,b⟩=R at *;generalize bC a=A at *;generalize bC b=B at *;generalize iC ⟨a,b⟩=C at *;go_enter func164,ntmps164
 go_upto_region 1 with (fail)
 obtain⟨W,ga,gb,gc,hW,ega,egb,egc,Bga,Bgb,Bgc,hga,hgb,hgc,hgW,HkW⟩:=al3h w (.cells A 114) (.cells B 114) (.cells #[.bool false,.string ⟨#[]⟩,.bool false,.string ⟨#[]⟩,.bool false,.string ⟨#[]⟩,.bool false,.string ⟨#[]⟩,.bool false,.bool false,.string ⟨#[]⟩,.bool false,.string ⟨#[]⟩,.bool false,.string ⟨#[]⟩,.bool false,.string ⟨#[]⟩,.bool false,.bool false,.bool false] 32);rw [← hW];try rw [egc]
 try rw [egb]
 try rw [ega]
 clear hW ega egb egc;have La:=HA.out _ _ Bga.out;have Lb:=HB.out _ _ Bgb.out;have oa:=HA2.out _ _ Bga.out;have ob:=HB2.out _ _ Bgb.out;refine wp_region_lit ?_;refine wV ?_;go_simp;refine wX (v:=kv a.pt) ⟨ga,0,none⟩ ((yba _ _ _ _ La)) ?_;go_simp;refine wV ?_;go_simp;refine wX (v:=kv b.pt) ⟨gb,0,none⟩ ((yba _ _ _ _ Lb)) ?_;go_simp;refine wV ?_;go_simp;refine wV ?_;go_simp;refine wV ?_;go_simp;refine wV ?_;go_simp;refine wV ?_;go_simp;refine wU (v:=.agg C) (yam _ #[(0,.tmp 6),(1,.tmp 8),(2,.tmp 10),(3,.tmp 13)] #[(0,kv a.pt),(1,kv b.pt),(2,.bool a.beh),(3,.bool (!b.beh))] _ rfl (by simp only [List.map_toArray,List.map_cons,List.map_nil];rfl) HI.out) ?_;go_simp;refine yaM (by rfl) _ _ _ rfl gc C rfl rfl _ _ Bgc.out HS.out (by rw [Hsz.out];rfl) HO.out (fun K hK=>?_);obtain⟨W4,e4,b4,k4⟩:=yaD (cs:=C) Bgc.out;rw [e4];go_simp;go_step
 have Hb4:=jX b4;have HkZ:=jX (HkW.out.trans k4 (by simp;omega));clear La Lb oa ob b4 k4 e4;go_wp2_with fail;refine bodyPost_ret (v:=R) ?_ rfl ⟨rfl,HkZ.out⟩;rw [yac rfl];exact HL.out _ _ Hb4.out
end Go.Proofs.YtpgffjjpiafhpaaGreatDoor
