/- Parts of a proof: Iz Ts Tg Tj Va Vd Ua. -/
import Derived.Deep.Slices
import Derived.Lib.SmallJoins
import Derived.Shelf.SlSortCmp.WholeK
import Derived.Test.YtpgffjjpiafhpaaGreatDoorU14
import Derived.Test.YtpgffjjpiafhpaaGreatDoorU09
import Derived.Test.YtpgffjjpiafhpaaGreatDoorU13
set_option linter.unusedVariables false
set_option linter.unusedSimpArgs false
set_option maxRecDepth 100000
set_option maxHeartbeats 8000000
namespace Go.Proofs.YtpgffjjpiafhpaaGreatDoor
open Go.RowKit Tryz
section
variable {P:Program} {ops:Array Oper} {Q:Exit→Act→World→Prop} {rest:List Oper} {o:Oper} {a:Act} {w:World}
theorem gWC (hw:Region.wanted o (yielded ops a.tmps)=true)
  (h:∀ K:Act→World→Prop,(∀ a w,wpList P ops Q rest a w→K a w)→o.wp P a w K Q):wpList P ops Q (o :: rest) a w:=by
 unfold wpList;rw [if_pos hw];exact .inl (h _ fun _ _ h=>h)
theorem gWE (hw:Region.wanted o (yielded ops a.tmps)=true)
  (h:∃ v,(execOp a.eval o).run P w = .ok (.value v) w∧∀ K:Act→World→Prop,(∀ a w,wpList P ops Q rest a w→K a w)→K (a.put o.dst v) w):wpList P ops Q (o :: rest) a w:=by
 obtain⟨v,h1,h2⟩:=h;exact gWC hw fun K hK=>ybK v w h1 (h2 K hK)
theorem gWS (hw:Region.wanted o (yielded ops a.tmps)=false)
  (h:∀ K:Act→World→Prop,(∀ a w,wpList P ops Q rest a w→K a w)→K (a.put o.dst undef) w):wpList P ops Q (o :: rest) a w:=by
 unfold wpList;rw [hw];exact h _ fun _ _ h=>h
end
theorem yaA {P:Program} {a:Act} {o:Oper} {w:World} (n:FuncId) (args:Array Operand) (ts:Array TypeId) (vals:Array Value) (ho:o.op = .call ⟨.value (.func n),args,ts⟩) (hv:args.map a.eval=vals) (hc:(callFunc n vals).run P w = .ok (.enter n vals) w):(execOp a.eval o).run P w = .ok (.enter n vals) w:=by
 unfold execOp;simp only [ho];go_simp
abbrev Tg {α:Type} (P:α→Prop):Type:=Unit
abbrev Fn {α:Type} (P:α→Prop) (b:Tg P) (t:α):Prop:=P t
theorem fO {α:Type} {P:α→Prop} {b:Tg P} {t:α} (h:P t):Fn P b t:=h
theorem fK {α:Type} {P:α→Prop} {b:Tg P} {t:α} (h:Fn P b t):∀ K:α→Prop,(∀ a,P a→K a)→K t:=fun K hK=>hK t h
section
variable {P:Program} {ops:Array Oper} {md:Region.Mode} {Q:Exit→Act→World→Prop} {V w:World} {n f:Nat} {L:Array Bool→Act→World→Prop} {listed:Array Bool} {a:Act} {o:Oper} {v:Value} {S:World→Prop} {t:TypeId} {x:Operand} {args:Array Operand} {ts:Array TypeId} {rest:List Oper}
theorem tV (i:Nat) (hS:S w) (h2:Fn (fun a=>yaD P md ops Q S n L f (listed.setIfInBounds i true) a w) () (a.put o.dst v))
  (ho:ops[i]? = some o:=by rfl) (h1:∀ w,S w→(execOp a.eval o).run P w = .ok (.value v) w:=by (intro w hw;go_simp;try rfl)) (hi:i<n:=by decide) (hf:Region.free md ops listed i=true:=by kernel_rfl) (hr:(Region.ready md ops listed).contains i=true:=by kernel_rfl) (hg:Region.wanted o (yielded ops a.tmps)=true:=by rfl):yaD P md ops Q S n L (f+1) listed a w :=
 yaI i ho hi hf hr hg hS h1 (fK h2)
theorem tX (i:Nat) (ad:Addr) (hS:S w) (h:∀ w,S w→(loadVar t ad).run P w = .ok v w) (h2:Fn (fun a=>yaD P md ops Q S n L f (listed.setIfInBounds i true) a w) () (a.put o.dst v))
  (ho:ops[i]? = some o:=by rfl) (ho2:o.op = .load t x:=by rfl) (hx:a.eval x = .pointer (some ad):=by rfl) (hi:i<n:=by decide) (hf:Region.free md ops listed i=true:=by kernel_rfl) (hr:(Region.ready md ops listed).contains i=true:=by kernel_rfl) (hg:Region.wanted o (yielded ops a.tmps)=true:=by rfl):yaD P md ops Q S n L (f+1) listed a w :=
 yaI i ho hi hf hr hg hS (fun w hw=>yan _ _ ad _ ho2 hx (h w hw)) (fK h2)
theorem tS (i:Nat) (hS:S w) (h2:Fn (fun a=>yaD P md ops Q S n L f (listed.setIfInBounds i true) a w) () (a.put o.dst undef))
  (ho:ops[i]? = some o:=by rfl) (hi:i<n:=by decide) (hf:Region.free md ops listed i=true:=by kernel_rfl) (hr:(Region.ready md ops listed).contains i=true:=by kernel_rfl) (hg:Region.wanted o (yielded ops a.tmps)=false:=by rfl):yaD P md ops Q S n L (f+1) listed a w :=
 yfu i ho hi hf hr hg hS (fK h2)
theorem tQ (i:Nat) (fn:FuncId) (vals:Array Value) (hS:Keep [] V w) (H:Calls P fn vals w fun e w'=>e = .returned v∧Keep [] w w') (h2:∀ w',Keep [] V w'→Fn (fun a=>yaD P md ops Q (fun u=>Keep [] V u) n L f (listed.setIfInBounds i true) a w') () (a.put o.dst v))
  (ho:ops[i]? = some o:=by rfl) (ho2:o.op = .call ⟨.value (.func fn),args,ts⟩:=by rfl) (hv:args.map a.eval=vals:=by (simp only [List.map_toArray,List.map_cons,List.map_nil]<;>rfl)) (hc:(callFunc fn vals).run P w = .ok (.enter fn vals) w:=by rfl) (hi:i<n:=by decide) (hr:Region.ready md ops listed=[i]:=by kernel_rfl) (hg:Region.wanted o (yielded ops a.tmps)=true:=by rfl):yaD P md ops Q (fun u=>Keep [] V u) n L (f+1) listed a w:=by
 refine ycS i hr hi ho hg (fun K hK=>?_);refine yaf fn vals (yaA _ _ _ _ ho2 hv hc) ?_;refine H.mono ?_;rintro e w' ⟨rfl,hb⟩;exact ⟨v,rfl,fK (h2 w' (hS.tz hb)) (fun a=>K a w') (fun a h=>hK a w' (hS.tz hb) h)⟩
theorem uQ (i:Nat) (fn:FuncId) (vals:Array Value) (hS:Below V.heap.size V w) (H:Calls P fn vals w fun e w'=>e = .returned v∧Keep [] w w') (h2:∀ w',Below V.heap.size V w'→Below w.heap.size w w'→Fn (fun a=>yaD P md ops Q (fun u=>Below V.heap.size V u) n L f (listed.setIfInBounds i true) a w') () (a.put o.dst v))
  (ho:ops[i]? = some o:=by rfl) (ho2:o.op = .call ⟨.value (.func fn),args,ts⟩:=by rfl) (hv:args.map a.eval=vals:=by (simp only [List.map_toArray,List.map_cons,List.map_nil]<;>rfl)) (hc:(callFunc fn vals).run P w = .ok (.enter fn vals) w:=by rfl) (hi:i<n:=by decide) (hr:Region.ready md ops listed=[i]:=by kernel_rfl) (hg:Region.wanted o (yielded ops a.tmps)=true:=by rfl):yaD P md ops Q (fun u=>Below V.heap.size V u) n L (f+1) listed a w:=by
 refine ycS i hr hi ho hg (fun K hK=>?_);refine yaf fn vals (yaA _ _ _ _ ho2 hv hc) ?_;refine H.mono ?_;rintro e w' ⟨rfl,hb⟩;have hb:=hb.bz;have hS:=Below.trans hS (Below.mono hb hS.size);exact ⟨v,rfl,fK (h2 w' hS hb) (fun a=>K a w') (fun a h=>hK a w' hS h)⟩
theorem uR (i:Nat) (fn:FuncId) (vals:Array Value) (hS:Below V.heap.size V w) (H:Calls P fn vals w fun e w'=>e = .returned v∧Below w.heap.size w w') (h2:∀ w',Below V.heap.size V w'→Below w.heap.size w w'→Fn (fun a=>yaD P md ops Q (fun u=>Below V.heap.size V u) n L f (listed.setIfInBounds i true) a w') () (a.put o.dst v))
  (ho:ops[i]? = some o:=by rfl) (ho2:o.op = .call ⟨.value (.func fn),args,ts⟩:=by rfl) (hv:args.map a.eval=vals:=by (simp only [List.map_toArray,List.map_cons,List.map_nil]<;>rfl)) (hc:(callFunc fn vals).run P w = .ok (.enter fn vals) w:=by rfl) (hi:i<n:=by decide) (hr:Region.ready md ops listed=[i]:=by kernel_rfl) (hg:Region.wanted o (yielded ops a.tmps)=true:=by rfl):yaD P md ops Q (fun u=>Below V.heap.size V u) n L (f+1) listed a w:=by
 refine ycS i hr hi ho hg (fun K hK=>?_);refine yaf fn vals (yaA _ _ _ _ ho2 hv hc) ?_;refine H.mono ?_;rintro e w' ⟨rfl,hb⟩;have hS:=Below.trans hS (Below.mono hb hS.size);exact ⟨v,rfl,fK (h2 w' hS hb) (fun a=>K a w') (fun a h=>hK a w' hS h)⟩
theorem tU (i:Nat) (hS:S w) (h1:∀ w,S w→(execOp a.eval o).run P w = .ok (.value v) w) (h2:Fn (fun a=>yaD P md ops Q S n L f (listed.setIfInBounds i true) a w) () (a.put o.dst v))
  (ho:ops[i]? = some o:=by rfl) (hi:i<n:=by decide) (hf:Region.free md ops listed i=true:=by kernel_rfl) (hr:(Region.ready md ops listed).contains i=true:=by kernel_rfl) (hg:Region.wanted o (yielded ops a.tmps)=true:=by rfl):yaD P md ops Q S n L (f+1) listed a w :=
 yaI i ho hi hf hr hg hS h1 (fK h2)
theorem tB {parts:Array (Nat × Operand)} {cells:Array Value} (i:Nat) (parts':Array (Nat × Value)) (hS:S w) (hb:P.built t parts'.toList=some cells) (h2:Fn (fun a=>yaD P md ops Q S n L f (listed.setIfInBounds i true) a w) () (a.put o.dst (.agg cells)))
  (ho:ops[i]? = some o:=by rfl) (ho2:o.op = .build t parts:=by rfl) (hp:(parts.map fun (i,x)=>(i,a.eval x))=parts':=by (simp only [List.map_toArray,List.map_cons,List.map_nil]<;>rfl)) (hi:i<n:=by decide) (hf:Region.free md ops listed i=true:=by kernel_rfl) (hr:(Region.ready md ops listed).contains i=true:=by kernel_rfl) (hg:Region.wanted o (yielded ops a.tmps)=true:=by rfl):yaD P md ops Q S n L (f+1) listed a w :=
 yaI i ho hi hf hr hg hS (fun w hw=>yaC t parts parts' cells ho2 hp hb) (fK h2)
theorem pK {T:Act→World→Prop} {K:Act→World→Prop} (fn:FuncId) (vals:Array Value) (hK:∀ a w,S w→T a w→K a w) (H:Calls P fn vals w fun e w'=>e = .returned v∧Keep [] w w') (h2:∀ w',Keep [] w w'→∀ K':Act→Prop,(∀ a,S w'→T a w'→K' a)→K' (a.put o.dst v))
  (ho2:o.op = .call ⟨.value (.func fn),args,ts⟩:=by rfl) (hv:args.map a.eval=vals:=by (simp only [List.map_toArray,List.map_cons,List.map_nil]<;>rfl)) (hc:(callFunc fn vals).run P w = .ok (.enter fn vals) w:=by rfl):o.wp P a w K Q:=by
 refine yaf fn vals (yaA _ _ _ _ ho2 hv hc) ?_;refine H.mono ?_;rintro e w' ⟨rfl,hb⟩;exact ⟨v,rfl,h2 w' hb (fun a=>K a w') (fun a h1 h=>hK a w' h1 h)⟩
theorem wE {R:World→Prop} (fn:FuncId) (vals:Array Value) (H:Calls P fn vals w fun e w'=>e = .returned v∧R w') (h2:∀ w',R w'→Fn (fun a=>wpList P ops Q rest a w') () (a.put o.dst v))
  (hg:o.guard=none:=by rfl) (ho2:o.op = .call ⟨.value (.func fn),args,ts⟩:=by rfl) (hv:args.map a.eval=vals:=by (simp only [List.map_toArray,List.map_cons,List.map_nil]<;>rfl)) (hc:(callFunc fn vals).run P w = .ok (.enter fn vals) w:=by rfl):wpList P ops Q (o :: rest) a w:=by
 refine wpList_plain hg (fun K hK=>?_);refine yaf fn vals (yaA _ _ _ _ ho2 hv hc) ?_;refine H.mono ?_;rintro e w' ⟨rfl,hb⟩;exact ⟨v,rfl,fK (h2 w' hb) (fun a=>K a w') (fun a h=>hK a w' h)⟩
theorem gE {R:World→Prop} (fn:FuncId) (vals:Array Value) (H:Calls P fn vals w fun e w'=>e = .returned v∧R w') (h2:∀ w',R w'→Fn (fun a=>wpList P ops Q rest a w') () (a.put o.dst v))
  (hg:Region.wanted o (yielded ops a.tmps)=true:=by rfl) (ho2:o.op = .call ⟨.value (.func fn),args,ts⟩:=by rfl) (hv:args.map a.eval=vals:=by (simp only [List.map_toArray,List.map_cons,List.map_nil]<;>rfl)) (hc:(callFunc fn vals).run P w = .ok (.enter fn vals) w:=by rfl):wpList P ops Q (o :: rest) a w:=by
 refine gWC hg (fun K hK=>?_);refine yaf fn vals (yaA _ _ _ _ ho2 hv hc) ?_;refine H.mono ?_;rintro e w' ⟨rfl,hb⟩;exact ⟨v,rfl,fK (h2 w' hb) (fun a=>K a w') (fun a h=>hK a w' h)⟩
theorem gV (h2:Fn (fun a=>wpList P ops Q rest a w) () (a.put o.dst v)) (hg:Region.wanted o (yielded ops a.tmps)=true:=by rfl) (h1:(execOp a.eval o).run P w = .ok (.value v) w:=by (go_simp;try rfl)):wpList P ops Q (o :: rest) a w :=
 gWE hg ⟨v,h1,fun K hK=>fK h2 (fun a=>K a w) (fun a h=>hK a w h)⟩
theorem gU (h1:(execOp a.eval o).run P w = .ok (.value v) w) (h2:Fn (fun a=>wpList P ops Q rest a w) () (a.put o.dst v)) (hg:Region.wanted o (yielded ops a.tmps)=true:=by rfl):wpList P ops Q (o :: rest) a w :=
 gWE hg ⟨v,h1,fun K hK=>fK h2 (fun a=>K a w) (fun a h=>hK a w h)⟩
theorem gX (ad:Addr) (h:(loadVar t ad).run P w = .ok v w) (h2:Fn (fun a=>wpList P ops Q rest a w) () (a.put o.dst v)) (hg:Region.wanted o (yielded ops a.tmps)=true:=by rfl) (ho2:o.op = .load t x:=by rfl) (hx:a.eval x = .pointer (some ad):=by rfl):wpList P ops Q (o :: rest) a w :=
 gWE hg ⟨v,yan _ _ ad _ ho2 hx h,fun K hK=>fK h2 (fun a=>K a w) (fun a h=>hK a w h)⟩
theorem gS (h2:Fn (fun a=>wpList P ops Q rest a w) () (a.put o.dst undef)) (hg:Region.wanted o (yielded ops a.tmps)=false:=by rfl):wpList P ops Q (o :: rest) a w :=
 gWS hg fun K hK=>fK h2 (fun a=>K a w) (fun a h=>hK a w h)
theorem wV (h2:Fn (fun a=>wpList P ops Q rest a w) () (a.put o.dst v)) (hg:o.guard=none:=by rfl) (h1:(execOp a.eval o).run P w = .ok (.value v) w:=by (go_simp;try rfl)):wpList P ops Q (o :: rest) a w :=
 yge hg h1 fun K hK=>fK h2 (fun a=>K a w) (fun a h=>hK a w h)
theorem wU (h1:(execOp a.eval o).run P w = .ok (.value v) w) (h2:Fn (fun a=>wpList P ops Q rest a w) () (a.put o.dst v)) (hg:o.guard=none:=by rfl):wpList P ops Q (o :: rest) a w :=
 yge hg h1 fun K hK=>fK h2 (fun a=>K a w) (fun a h=>hK a w h)
theorem wX (ad:Addr) (h:(loadVar t ad).run P w = .ok v w) (h2:Fn (fun a=>wpList P ops Q rest a w) () (a.put o.dst v)) (hg:o.guard=none:=by rfl) (ho2:o.op = .load t x:=by rfl) (hx:a.eval x = .pointer (some ad):=by rfl):wpList P ops Q (o :: rest) a w :=
 yge hg (yan _ _ ad _ ho2 hx h) fun K hK=>fK h2 (fun a=>K a w) (fun a h=>hK a w h)
theorem wR {ty u:TypeId} {y:Operand} {old:Array Value} (g:Nat) (cs:Array Value) (hg:w.heap[g]? = some (.cells old u (0,0))) (hi:(P.info? ty).map (·.size)=some cs.size) (hold:old.size=cs.size) (h1:cs.all (·.oneCell')=true)
  (h2:∀ w',w'.heap[g]? = some (.cells cs u (0,0))→Keep [g] w w'→Fn (fun a=>wpList P ops Q rest a w') () (a.put o.dst undef)) (hgd:o.guard=none:=by rfl) (ho:o.op = .store ty x y:=by rfl) (hx:a.eval x = .pointer (some ⟨g,0,none⟩):=by rfl) (hy:a.eval y = .agg cs:=by rfl):wpList P ops Q (o :: rest) a w:=by
 refine ybm hgd ty x y ho g cs hx hy u old hg hi hold h1 (fun K hK=>?_);obtain⟨w',e,b,k⟩:=yaL (cs:=cs) hg;rw [e];exact fK (h2 w' b k) (fun a=>K a w') (fun a h=>hK a w' h)
theorem wA {z:Obj} (h:(execOp a.eval o).run P w = .ok (.value (.pointer (some ⟨w.heap.size,0,none⟩))) (w.alloc z))
  (h2:∀ W g,w.heap.size=g→W.heap[g]? = some z→w.heap.size≤g→g<W.heap.size→Keep [] w W→Fn (fun a=>wpList P ops Q rest a W) () (a.put o.dst (.pointer (some ⟨g,0,none⟩)))) (hgd:o.guard=none:=by rfl):wpList P ops Q (o :: rest) a w :=
 yar hgd h fun K hK=>fK (h2 (w.alloc z) w.heap.size rfl (World.alloc_heap_new w z) (Nat.le_refl _) (by simp) (Keep.alloc [] w z)) (fun a=>K a (w.alloc z)) (fun a h=>hK a _ h)
end
theorem share1 {H:Prop} {P:Program} {md:Region.Mode} {ops:Array Oper} {Q:Exit→Act→World→Prop} {S:World→Prop} {n:Nat} {L:Array Bool→Act→World→Prop} {f:Nat} (A:Nat→Act) (Ls:Array Bool) (F:World→Nat→Prop)
  (tr:(∀ ls x g,ls=Ls→F x g→yaD P md ops Q S n L f ls (A g) x)→H) (ky:∀ x g,F x g→yaD P md ops Q S n L f Ls (A g) x):H:=tr fun ls x g h hF=>by
 subst h;exact ky x g hF
theorem share2 {H:Prop} {P:Program} {md:Region.Mode} {ops:Array Oper} {Q:Exit→Act→World→Prop} {S:World→Prop} {n:Nat} {L:Array Bool→Act→World→Prop} {f:Nat} (A:Nat→Nat→Act) (Ls:Array Bool) (F:World→Nat→Nat→Prop)
  (tr:(∀ ls x g k,ls=Ls→F x g k→yaD P md ops Q S n L f ls (A g k) x)→H) (ky:∀ x g k,F x g k→yaD P md ops Q S n L f Ls (A g k) x):H:=tr fun ls x g k h hF=>by
 subst h;exact ky x g k hF
def bcells (b:Bd K):List Value:=kcells b.pt.1++[.bool b.beh]
def bv (b:Bd K):Value:=.agg (bcells b).toArray
theorem yev (b:Bd K):bv b = .agg #[.bool (sgB b.pt.1.p.num),.string (mgS b.pt.1.p.num),.bool false,.string (dnS b.pt.1.p.den),.bool (sgB b.pt.1.r.num),.string (mgS b.pt.1.r.num),.bool false,.string (dnS b.pt.1.r.den),.bool b.pt.1.neg,.bool b.beh]:=rfl
theorem ycF (f1 f4 f7 o:Bool) (f2 f3 f5 f6:ByteArray):prog.built 114 [(0,.agg #[.bool f1,.string f2,.bool false,.string f3,.bool f4,.string f5,.bool false,.string f6,.bool f7]),(1,.bool o)]=some #[.bool f1,.string f2,.bool false,.string f3,.bool f4,.string f5,.bool false,.string f6,.bool f7,.bool o]:=by kernel_rfl
theorem iv_built (f1 f4 f7 t1 t4 t7 o c:Bool) (f2 f3 f5 f6 t2 t3 t5 t6:ByteArray):prog.built 32 [(0,.agg #[.bool f1,.string f2,.bool false,.string f3,.bool f4,.string f5,.bool false,.string f6,.bool f7]),(1,.agg #[.bool t1,.string t2,.bool false,.string t3,.bool t4,.string t5,.bool false,.string t6,.bool t7]),(2,.bool o),(3,.bool c)]=some #[.bool f1,.string f2,.bool false,.string f3,.bool f4,.string f5,.bool false,.string f6,.bool f7,.bool t1,.string t2,.bool false,.string t3,.bool t4,.string t5,.bool false,.string t6,.bool t7,.bool o,.bool c]:=by kernel_rfl
theorem yfi (i:Iv K) (w:World):Calls prog 77 #[iv i] w fun e w'=>e = .returned (bv i.f)∧Keep [] w w':=by
 rw [yds,yev];generalize sgB (i.f.pt.1).p.num=f1 at *;generalize mgS (i.f.pt.1).p.num=f2 at *;generalize dnS (i.f.pt.1).p.den=f3 at *;generalize sgB (i.f.pt.1).r.num=f4 at *;generalize mgS (i.f.pt.1).r.num=f5 at *;generalize dnS (i.f.pt.1).r.den=f6 at *;generalize (i.f.pt.1).neg=f7 at *;generalize sgB (i.l.pt.1).p.num=t1 at *;generalize mgS (i.l.pt.1).p.num=t2 at *;generalize dnS (i.l.pt.1).p.den=t3 at *;generalize sgB (i.l.pt.1).r.num=t4 at *;generalize mgS (i.l.pt.1).r.num=t5 at *;generalize dnS (i.l.pt.1).r.den=t6 at *;generalize (i.l.pt.1).neg=t7 at *;generalize i.f.beh=o at *;generalize (!i.l.beh)=c at *;have hbd:=fun w=>run_build (P:=prog) w 114 #[(0,.agg #[.bool f1,.string f2,.bool false,.string f3,.bool f4,.string f5,.bool false,.string f6,.bool f7]),(1,.bool o)] _ (ycF _ _ _ _ _ _ _ _);go_enter func77,ntmps77
 go_upto_region 1 with (fail)
 obtain⟨W,ga,gb,hW,ega,egb,Bga,Bgb,hga,hgb,hgW,HkW⟩:=al2h w (.cells #[.bool f1,.string f2,.bool false,.string f3,.bool f4,.string f5,.bool false,.string f6,.bool f7,.bool t1,.string t2,.bool false,.string t3,.bool t4,.string t5,.bool false,.string t6,.bool t7,.bool o,.bool c] 32) (.cells #[.bool false,.string ⟨#[]⟩,.bool false,.string ⟨#[]⟩,.bool false,.string ⟨#[]⟩,.bool false,.string ⟨#[]⟩,.bool false,.bool false] 114);rw [← hW];try rw [egb]
 try rw [ega]
 clear hW ega egb;obtain⟨pga,fga,lga⟩:=jQ Bga;obtain⟨pgb,fgb,lgb⟩:=jQ Bgb;go_wp2_with fail;refine bodyPost_ret (v:=.agg #[.bool f1,.string f2,.bool false,.string f3,.bool f4,.string f5,.bool false,.string f6,.bool f7,.bool o]) ?_ rfl ⟨rfl,by repeat (first|(with_reducible exact HkW.out)|(refine Keep.sP ?_ _ _ _ (by omega))|(refine Keep.aP ?_ _)|(refine Keep.dP ?_))⟩;rw [yac rfl];go_simp
theorem yhl (i:Iv K) (w:World):Calls prog 78 #[iv i] w fun e w'=>e = .returned (bv i.l)∧Keep [] w w':=by
 have hn:i.l.beh = !(!i.l.beh):=by simp
 rw [yds,yev,hn];rw [← hn];generalize sgB (i.f.pt.1).p.num=f1 at *;generalize mgS (i.f.pt.1).p.num=f2 at *;generalize dnS (i.f.pt.1).p.den=f3 at *;generalize sgB (i.f.pt.1).r.num=f4 at *;generalize mgS (i.f.pt.1).r.num=f5 at *;generalize dnS (i.f.pt.1).r.den=f6 at *;generalize (i.f.pt.1).neg=f7 at *;generalize sgB (i.l.pt.1).p.num=t1 at *;generalize mgS (i.l.pt.1).p.num=t2 at *;generalize dnS (i.l.pt.1).p.den=t3 at *;generalize sgB (i.l.pt.1).r.num=t4 at *;generalize mgS (i.l.pt.1).r.num=t5 at *;generalize dnS (i.l.pt.1).r.den=t6 at *;generalize (i.l.pt.1).neg=t7 at *;clear hn;generalize i.f.beh=o at *;generalize i.l.beh=c at *;have hbd:=fun w=>run_build (P:=prog) w 114 #[(0,.agg #[.bool t1,.string t2,.bool false,.string t3,.bool t4,.string t5,.bool false,.string t6,.bool t7]),(1,.bool c)] _ (ycF _ _ _ _ _ _ _ _);go_enter func78,ntmps78
 go_upto_region 1 with (fail)
 obtain⟨W,ga,gb,hW,ega,egb,Bga,Bgb,hga,hgb,hgW,HkW⟩:=al2h w (.cells #[.bool f1,.string f2,.bool false,.string f3,.bool f4,.string f5,.bool false,.string f6,.bool f7,.bool t1,.string t2,.bool false,.string t3,.bool t4,.string t5,.bool false,.string t6,.bool t7,.bool o,.bool (!c)] 32) (.cells #[.bool false,.string ⟨#[]⟩,.bool false,.string ⟨#[]⟩,.bool false,.string ⟨#[]⟩,.bool false,.string ⟨#[]⟩,.bool false,.bool false] 114);rw [← hW];try rw [egb]
 try rw [ega]
 clear hW ega egb;obtain⟨pga,fga,lga⟩:=jQ Bga;obtain⟨pgb,fgb,lgb⟩:=jQ Bgb;go_wp2_with fail;refine bodyPost_ret (v:=.agg #[.bool t1,.string t2,.bool false,.string t3,.bool t4,.string t5,.bool false,.string t6,.bool t7,.bool c]) ?_ rfl ⟨rfl,by repeat (first|(with_reducible exact HkW.out)|(refine Keep.sP ?_ _ _ _ (by omega))|(refine Keep.aP ?_ _)|(refine Keep.dP ?_))⟩;rw [yac rfl];go_simp
theorem iv_built' (a b:Bd K):prog.built 32 [(0,kv a.pt),(1,kv b.pt),(2,.bool a.beh),(3,.bool (!b.beh))]=some (iC ⟨a,b⟩):=iv_built _ _ _ _ _ _ _ _ _ _ _ _ _ _ _ _
def bC (b:Bd K):Array Value:=(bcells b).toArray
theorem bAt_pt {w:World} {g:Nat} {b:Bd K} {t:TypeId} (h:w.heap[g]? = some (.cells (bC b) t)):KAt w g 0 b.pt.1:=fun k v hk=>by
 rw [Nat.zero_add,yab h];refine (List.getElem?_toArray ..).trans ?_;unfold bcells;rw [List.getElem?_append_left (List.getElem?_eq_some_iff.1 hk).1];exact hk
theorem bAt_beh {w:World} {g:Nat} {b:Bd K} {t:TypeId} (h:w.heap[g]? = some (.cells (bC b) t)):w.cell? ⟨g,9,none⟩=some (.bool b.beh):=by
 rw [yab h];rfl
theorem between_c (a b:Bd K) (w:World):Calls prog 164 #[bv a,bv b] w fun e w'=>e = .returned (iv ⟨a,b⟩)∧Keep [] w w':=by
 show Calls prog 164 #[.agg (bC a),.agg (bC b)] w _
 have HA:=jX (fun w g=>@bAt_pt w g a 114);have HB:=jX (fun w g=>@bAt_pt w g b 114);have HA2:=jX (fun w g=>@bAt_beh w g a 114);have HB2:=jX (fun w g=>@bAt_beh w g b 114);have HI:=jX (iv_built' a b);have HS:=jX (ybL ⟨a,b⟩);have HO:=jX (ybP ⟨a,b⟩);have HL:=jX (fun w g (h:w.heap[g]? = some (.cells (iC ⟨a,b⟩) 32))=>yaJ w g 0 ⟨a,b⟩ (yao h));have Hsz:Hid ((iC ⟨a,b⟩).size=20):=rfl;generalize iv ⟨a,b⟩=R at *;generalize bC a=A at *;generalize bC b=B at *;generalize iC ⟨a,b⟩=C at *;go_enter func164,ntmps164
 go_upto_region 1 with (fail)
 obtain⟨W,ga,gb,gc,hW,ega,egb,egc,Bga,Bgb,Bgc,hga,hgb,hgc,hgW,HkW⟩:=al3h w (.cells A 114) (.cells B 114) (.cells #[.bool false,.string ⟨#[]⟩,.bool false,.string ⟨#[]⟩,.bool false,.string ⟨#[]⟩,.bool false,.string ⟨#[]⟩,.bool false,.bool false,.string ⟨#[]⟩,.bool false,.string ⟨#[]⟩,.bool false,.string ⟨#[]⟩,.bool false,.string ⟨#[]⟩,.bool false,.bool false,.bool false] 32);rw [← hW];try rw [egc]
 try rw [egb]
 try rw [ega]
 clear hW ega egb egc;have La:=HA.out _ _ Bga.out;have Lb:=HB.out _ _ Bgb.out;have oa:=HA2.out _ _ Bga.out;have ob:=HB2.out _ _ Bgb.out;refine wp_region_lit ?_;refine wV ?_;go_simp;refine wX (v:=kv a.pt) ⟨ga,0,none⟩ ((yax _ _ _ _ La)) ?_;go_simp;refine wV ?_;go_simp;refine wX (v:=kv b.pt) ⟨gb,0,none⟩ ((yax _ _ _ _ Lb)) ?_;go_simp;refine wV ?_;go_simp;refine wV ?_;go_simp;refine wV ?_;go_simp;refine wV ?_;go_simp;refine wV ?_;go_simp;refine wU (v:=.agg C) (yaC _ #[(0,.tmp 6),(1,.tmp 8),(2,.tmp 10),(3,.tmp 13)] #[(0,kv a.pt),(1,kv b.pt),(2,.bool a.beh),(3,.bool (!b.beh))] _ rfl (by simp only [List.map_toArray,List.map_cons,List.map_nil];rfl) HI.out) ?_;go_simp;refine ybm (by rfl) _ _ _ rfl gc C rfl rfl _ _ Bgc.out HS.out (by rw [Hsz.out];rfl) HO.out (fun K hK=>?_);obtain⟨W4,e4,b4,k4⟩:=yaL (cs:=C) Bgc.out;rw [e4];go_simp;go_step
 have Hb4:=jX b4;have HkZ:=jX (HkW.out.trans k4 (by simp;omega));clear La Lb oa ob b4 k4 e4;go_wp2_with fail;refine bodyPost_ret (v:=R) ?_ rfl ⟨rfl,HkZ.out⟩;rw [yac rfl];exact HL.out _ _ Hb4.out
theorem ygi (ev:Operand→Value) (w:World) (o:Oper) (ho:o.op = .alloc 32):(execOp ev o).run prog w = .ok (.value (.pointer (some ⟨w.heap.size,0,none⟩))) (w.alloc (.cells #[.bool false,.string ⟨#[]⟩,.bool false,.string ⟨#[]⟩,.bool false,.string ⟨#[]⟩,.bool false,.string ⟨#[]⟩,.bool false,.bool false,.string ⟨#[]⟩,.bool false,.string ⟨#[]⟩,.bool false,.string ⟨#[]⟩,.bool false,.string ⟨#[]⟩,.bool false,.bool false,.bool false] 32)):=by
 unfold execOp;simp only [ho];go_simp
section
open Go.ChangeShapes Go.WideShapes Go.ChangeAt
theorem yiF {α β:Type} (f:α→Option β):∀ (l:List α) (cs:List β),l.mapM f=some cs→cs.length=l.length∧∀ (i:Nat) (x:α),l[i]? = some x→f x=cs[i]?
 | [],cs,h=>by
  simp at h;subst h;exact ⟨rfl,fun i x hx=>by simp at hx⟩
 | x :: l,cs,h=>by
  rw [List.mapM_cons] at h;simp only [Option.bind_eq_bind,Option.pure_def,Option.bind_eq_some_iff] at h;obtain⟨y,hy,ys,hys,h⟩:=h;simp at h;subst h;obtain⟨h1,h2⟩:=yiF f l ys hys;refine ⟨by simp [h1],fun i z hz=>?_⟩;cases i with
  | zero=>simp at hz;subst hz;simpa using hy
  | succ i=>simp at hz ⊢;exact h2 i z hz
theorem cells?_get {w:World} {base n:Nat} {a:Addr} {cs:List Value} (h:w.cells? base a n=some cs):cs.length=n∧∀ i,i<n→w.cell? (a.add i)=cs[i]?:=by
 unfold World.cells? at h;split at h
 ·obtain⟨h1,h2⟩:=yiF _ _ _ h
  exact ⟨by simpa using h1,fun i hi=>h2 i i (by rw [List.getElem?_range hi])⟩
 cases h
theorem ydI {w:World} {a:Addr} {v:Value} (h:w.cell? a=some v):∃ b off,a=⟨b,off,none⟩:=by
 obtain⟨b,off,sp⟩:=a;cases sp with
 | none=>exact ⟨b,off,rfl⟩
 | some x=>simp [World.cell?] at h;split at h<;>simp at h
theorem cells_u8:prog.cellsOf 5=1:=by kernel_rfl
theorem cells_bool:prog.cellsOf 4=1:=by kernel_rfl
section
variable {H:Type} {enc:TypeId × Value→H} {w:World} {base:Nat} {held:Bool} {fuel:Nat}
end
end
section
open Go.ChangeShapes Go.WideShapes Go.ChangeAt
theorem ygK {v:Value} {l:List Value} (h:v.cells.toList=l) (hl:l.length≠1):v = .agg l.toArray:=by
 cases v with
 | agg c=>subst h;simp [Value.cells]
 | _=>subst h;exact absurd rfl hl
end
section
open Go.RowKit Go.Sort Go.Shelf
section
variable {P:Program} {ρ:Ren} {α:Type} [Inhabited α] {enc:α→List Value} {k:Nat}
theorem yhU (hk:∀ x,(enc x).length=k) {w:World} {g o n c:Nat} {l:List α} (h:RowE enc w (.slice (some ⟨g,o,none⟩) n c) l) (hf:∀ j,w.frozen? ⟨g,o+j,none⟩=false):HoldsK enc k w g o l.toArray:=by
 intro t ht;rw [size_flatK] at ht;have ht':t<l.length*k:=by simpa using ht
 refine ⟨?_,hf t⟩;have hk0:0<k:=Nat.pos_of_ne_zero (by rintro rfl;simp at ht');have hi:t / k<l.length:=Nat.div_lt_of_lt_mul (by rw [Nat.mul_comm];exact ht');have hj:t % k<k:=Nat.mod_lt _ hk0;rcases h with ⟨h,_⟩|⟨g',o',c',e,hc,hg,hx⟩
 ·cases h
 injection e with e1 e2 e3;injection e1 with e1;injection e1 with e1 e4;subst e1 e4;rw [get_flatK _ _ _ _ ht];refine hx t _ ?_;have h1:=yfN enc hk l (t / k) (t % k) hi hj;rw [Nat.div_add_mod' t k] at h1;have hj2:t % k<(enc l[t / k]).length:=by rw [hk];exact hj
 rw [h1,List.getElem?_eq_getElem hj2];have e2:l.toArray[t / k]! = l[t / k]:=by rw [getElem!_pos l.toArray (t / k) (by simpa using hi)];simp
 rw [e2,getElem!_pos (enc l[t / k]) (t % k) hj2];rfl
theorem yhv (hk:∀ x,(enc x).length=k) {w:World} {g o c:Nat} {d:Array α} (h:HoldsK enc k w g o d) (hg:g<w.heap.size) (hc:d.size≤c):RowE enc w (.slice (some ⟨g,o,none⟩) d.size c) d.toList:=by
 refine .inr ⟨g,o,c,by rw [Array.length_toList],by rw [Array.length_toList];exact hc,hg,fun t v hv=>?_⟩
 have ht:t<d.size*k:=by
  have:=(List.getElem?_eq_some_iff.1 hv).1;rw [yeC enc hk,Array.length_toList] at this;exact this
 have hk0:0<k:=Nat.pos_of_ne_zero (by rintro rfl;simp at ht);have hi:t / k<d.size:=Nat.div_lt_of_lt_mul (by rw [Nat.mul_comm];exact ht);have hj:t % k<k:=Nat.mod_lt _ hk0;have h1:=yfN enc hk d.toList (t / k) (t % k) (by simpa using hi) hj;rw [Nat.div_add_mod' t k,hv] at h1;have h2:=(h.cell hi hj).1;rw [Nat.add_assoc,Nat.div_add_mod' t k] at h2;rw [h2];have hj2:t % k<(enc d[t / k]).length:=by rw [hk];exact hj
 have e2:d[t / k]! = d[t / k]:=getElem!_pos d (t / k) hi;rw [e2,getElem!_pos (enc d[t / k]) (t % k) hj2];rw [Array.getElem_toList,List.getElem?_eq_getElem hj2] at h1;exact h1.symm
theorem yde (w:World) (g o n:Nat) (d:Array α) (os:Array Obj):Keep [g] w (sortWorldK enc k w g o n d os):=by
 refine ⟨rfl,rfl,rfl,?_,?_,?_⟩
 ·unfold sortWorldK grow putRowK
  simp [Go.Sort.ahead]
 ·unfold sortWorldK grow putRowK
  simp [Go.Sort.ahead]
 intro j hj hn;have hne:¬ g=j:=fun e=>hn (by simp [e]);unfold sortWorldK grow putRowK putRow mapBlock Go.Sort.ahead;dsimp only;rw [Array.getElem?_append_left (by simpa using hj),Array.getElem?_modify,if_neg hne]
theorem sort_row (L:SlLaysF0.n6 P ρ) (hk0:0<k) (aE:∀ w,(isAgg (ρ.t 24)).run P w = .ok true w) (zE:∀ w,(Go.sizeOf (ρ.t 24)).run P w = .ok k w) (hk:∀ x,(enc x).length=k) (h1:∀ x,∀ v∈enc x,v.oneCell'=true) (cf:α→α→Int) (hO:SWO (ltOf cf)) (g:Nat)
  (eg:∀ args w,(callFunc g args).run P w = .ok (.enter g args) w) (hcmp:∀ x y w,Calls P g #[.agg (enc x).toArray,.agg (enc y).toArray] w fun e w'=>e = .returned (.int .i64 (cf x y))∧Keep [] w w')
  {w:World} {b o n c:Nat} {l:List α} (h:RowE enc w (.slice (some ⟨b,o,none⟩) n c) l) (hf:∀ j,w.frozen? ⟨b,o+j,none⟩=false) (hsz:l.length<4611686018427387904) :
  Calls P (ρ.f 6) #[.slice (some ⟨b,o,none⟩) n c,.func (.func g) #[] #[]] w fun e w' =>
   e = .returned (.tuple #[])∧∃ l',l'.Perm l∧l'.Pairwise (fun x y=>ltOf cf y x=false)∧RowE enc w' (.slice (some ⟨b,o,none⟩) n c) l'∧Keep [b] w w':=by
 have hH:=yhU hk h hf
 have hn:n=l.length∧n≤c∧b<w.heap.size:=by
  rcases h with ⟨h,_⟩|⟨g',o',c',e,hc,hg,hx⟩
  ·cases h
  injection e with e1 e2 e3;injection e1 with e1;injection e1 with e1 e4;subst e1 e2 e3;exact ⟨rfl,hc,hg⟩
 obtain⟨rfl,hnc,hb⟩:=hn
 have hcl:CmpLays P g #[] enc k cf b o l.toArray.size w:=fun m os dk _ x y=>by
  have:=hcmp x y (sortWorldK enc k w b o m dk os);exact this.mono fun e w' ⟨he,hkk⟩=>⟨he,hkk.regrown⟩
 have:=AnyQ.slices_SortFunc L k aE zE enc hk h1 cf hO g #[] b o c l.toArray w eg hcl hH hb (by simpa using hsz);rw [List.size_toArray] at this;refine this.mono ?_;rintro e w' ⟨he,d',m,os,⟨hp1,_,hp2⟩,hs,rfl⟩;have hp1:d'.size=l.length:=by simpa using hp1
 have hp:d'.toList.Perm l:=by
  have e1:d'.extract 0 l.length=d':=by rw [← hp1,Array.extract_size]
  have e2:l.toArray.extract 0 l.length=l.toArray:=by rw [← List.size_toArray,Array.extract_size]
  rw [e1,e2] at hp2
  simpa using hp2
 refine ⟨he,d'.toList,hp,?_,?_,yde _ _ _ _ _ _⟩
 ·rw [List.pairwise_iff_getElem]
  intro i j hi hj hij;simp only [Array.length_toList] at hi hj;have:=hs i j (Nat.zero_le _) hij (by rw [← hp1];exact hj);rw [getElem!_pos d' j hj,getElem!_pos d' i hi] at this
  simpa using this
 have hh:HoldsK enc k (sortWorldK enc k w b o m d' os) b o d':=by
  unfold sortWorldK;exact holdsK_grow enc k _ os b o d' (by unfold putRowK;simpa [Go.Sort.ahead] using hb) (holdsK_putRowK enc k _ b o l.toArray d' (holdsK_ahead enc k w m b o _ hH) (by simpa using hp1))
 have:=yhv hk (c:=c) hh (Nat.lt_of_lt_of_le hb (yde (enc:=enc) (k:=k) w b o m d' os).size) (by omega);rw [hp1] at this;exact this
end
end
end Go.Proofs.YtpgffjjpiafhpaaGreatDoor
