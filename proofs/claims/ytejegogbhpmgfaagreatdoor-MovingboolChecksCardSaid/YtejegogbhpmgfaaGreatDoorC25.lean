/- Parts of a proof about this translation: Tf, Tg, Th, Tl. -/
import Derived.Deep.MidRow
import Derived.Test.YtejegogbhpmgfaaGreatDoorC24
import Derived.Test.YtejegogbhpmgfaaGreatDoorC19
set_option linter.unusedVariables false
set_option linter.unusedSimpArgs false
set_option maxRecDepth 100000
set_option maxHeartbeats 8000000
namespace Go.Proofs.YtejegogbhpmgfaaGreatDoor
open Go.RowKit
section
open Classical
theorem infoIvB:(Tryz.prog.info? 49).map (fun i=>(i.zero.map Value.cells,i.size,i.bytes))=some (some #[.bool false,.string ⟨#[]⟩,.bool false,.string ⟨#[]⟩,.bool false,.string ⟨#[]⟩,.bool false,.string ⟨#[]⟩,.bool false,.bool false,.string ⟨#[]⟩,.bool false,.string ⟨#[]⟩,.bool false,.string ⟨#[]⟩,.bool false,.string ⟨#[]⟩,.bool false,.bool false,.bool false],20,216):=by kernel_rfl
theorem iv_info:∃ i z,Tryz.prog.info? 49=some i∧i.zero=some z∧i.size=20∧i.bytes=216∧z.cells = #[.bool false,.string ⟨#[]⟩,.bool false,.string ⟨#[]⟩,.bool false,.string ⟨#[]⟩,.bool false,.string ⟨#[]⟩,.bool false,.bool false,.string ⟨#[]⟩,.bool false,.string ⟨#[]⟩,.bool false,.string ⟨#[]⟩,.bool false,.string ⟨#[]⟩,.bool false,.bool false,.bool false]:=by
 have h:=infoIvB
 cases hi:Tryz.prog.info? 49 with
 | none=>rw [hi] at h;cases h
 | some i =>
  rw [hi] at h
  simp only [Option.map_some,Option.some.injEq,Prod.mk.injEq] at h
  obtain⟨h1,h2,h3⟩:=h
  cases hz:i.zero with
  | none=>rw [hz] at h1;cases h1
  | some z =>
   rw [hz] at h1
   injection h1 with h1
   exact ⟨i,z,rfl,hz,h2,h3,h1⟩
theorem fill_i (f1 f4 f7 t1 t4 t7 o c:Bool) (f2 f3 f5 f6 t2 t3 t5 t6:ByteArray):Instr.fill (fun i=>some (i*20,20)) ((Array.range (1*20)).map ((#[.bool false,.string ⟨#[]⟩,.bool false,.string ⟨#[]⟩,.bool false,.string ⟨#[]⟩,.bool false,.string ⟨#[]⟩,.bool false,.bool false,.string ⟨#[]⟩,.bool false,.string ⟨#[]⟩,.bool false,.string ⟨#[]⟩,.bool false,.string ⟨#[]⟩,.bool false,.bool false,.bool false]:Array Value)[· % (#[.bool false,.string ⟨#[]⟩,.bool false,.string ⟨#[]⟩,.bool false,.string ⟨#[]⟩,.bool false,.string ⟨#[]⟩,.bool false,.bool false,.string ⟨#[]⟩,.bool false,.string ⟨#[]⟩,.bool false,.string ⟨#[]⟩,.bool false,.string ⟨#[]⟩,.bool false,.bool false,.bool false]:Array Value).size]!))
  #[(0, Value.agg #[.bool f1, .string f2, .bool false, .string f3, .bool f4, .string f5, .bool false, .string f6, .bool f7, .bool t1, .string t2, .bool false, .string t3, .bool t4, .string t5, .bool false, .string t6, .bool t7, .bool o, .bool c])].toList = some #[.bool f1, .string f2, .bool false, .string f3, .bool f4, .string f5, .bool false, .string f6, .bool f7, .bool t1, .string t2, .bool false, .string t3, .bool t4, .string t5, .bool false, .string t6, .bool t7, .bool o, .bool c] := by kernel_rfl
theorem build1_i (x:Iv K) (w:World):(Instr.buildSlice 27 1 #[(0,iv x)]).run Tryz.prog w = .ok (.slice (some ⟨w.heap.size,0,none⟩) 1 1) (w.alloc (.cells (iC x) 49)):=by
 obtain⟨i,z,hi,hz,hs,hb,hzc⟩:=iv_info
 refine run_buildSlice (P:=Tryz.prog) w 27 49 1 _ _ i z Tryz.underlying27 hi hz (by rw [hs];decide) (by rw [hs];decide) ?_
 rw [hs,hzc,iv_cells]
 exact fill_i _ _ _ _ _ _ _ _ _ _ _ _ _ _ _ _
theorem build0_i (w:World):(Instr.buildSlice 27 0 #[]).run Tryz.prog w = .ok (.slice (some ⟨w.heap.size,0,none⟩) 0 0) (w.alloc (.cells #[] 49)):=by
 go_simp
abbrev OI_:=OE (fun i:Iv K=>icells i) 49 20
theorem IvR.app {ty:TypeId} {w0 w:World} {v y:Value} {l m:List (Iv K)} (h:OI_ w0 w v l) (hv:v.ownBlock≠none∨0<m.length) (hy:IvR w y m) (hb:l.length+m.length≤1000000000) :
  ∃ v' w',(Builtin.append_ #[27,27] ty #[v,y]).run Tryz.prog w = .ok v' w'∧OI_ w0 w' v' (l++m)∧v'.ownBlock≠none∧∀ F,(∀ g,v.ownBlock=some g→g∈F)→Keep F w w':=by
 obtain⟨i,z,hi,hz,hs,hbt,hzc⟩:=iv_info
 exact OE.app (P:=Tryz.prog) (bytes:=216) Tryz.underlying27 hi hz hs hbt (by rw [hzc];rfl) (by decide) icells_len icells_one h hv hy (by unfold maxLen;omega) (by omega)
theorem OI_.start (w:World):∃ u g,w.alloc (.cells #[] 49)=u∧w.heap.size=g∧u.heap.size=g+1∧OI_ w u (.slice (some ⟨g,0,none⟩) 0 0) []:=⟨_,_,rfl,rfl,by simp,OE.empty w⟩
theorem IvR.single (x:Iv K) (w:World):∃ u g,w.alloc (.cells (iC x) 49)=u∧w.heap.size=g∧u.heap.size=g+1∧Keep [] w u∧IvR u (.slice (some ⟨g,0,none⟩) 1 1) [x]:=by
 refine ⟨_,_,rfl,rfl,by simp,Keep.alloc [] w _,.inr ⟨w.heap.size,0,1,rfl,Nat.le_refl _,by simp,fun i v hv=>?_⟩⟩
 exact ivAt_box (World.alloc_heap_new w (.cells (iC x) 49)) i v (by simpa using hv)
section
variable {P:Program}
theorem wpList_opv {ops:Array Oper} {rest:List Oper} {o:Oper} {a:Act} {w:World} {Q:Exit→Act→World→Prop} (hgd:o.guard=none) (v:Value) (w':World) (h:(execOp a.eval o).run P w = .ok (.value v) w') (hk:wpList P ops Q rest (a.put o.dst v) w'):wpList P ops Q (o :: rest) a w :=
 wpList_plain hgd fun K hK=>wp_op v w' h (hK _ _ hk)
theorem wpList_K {ops:Array Oper} {rest:List Oper} {o:Oper} {a:Act} {w w':World} {v:Value} {Q:Exit→Act→World→Prop} (hgd:o.guard=none) (h:(execOp a.eval o).run P w = .ok (.value v) w') (hk:∀ K:Act→World→Prop,(∀ a w,wpList P ops Q rest a w→K a w)→K (a.put o.dst v) w'):wpList P ops Q (o :: rest) a w :=
 wpList_opv hgd v w' h (hk _ fun _ _ h=>h)
theorem wpList_R {ops:Array Oper} {rest:List Oper} {o:Oper} {a:Act} {w:World} {v:Value} {Q:Exit→Act→World→Prop} (hgd:o.guard=none) (h:(execOp a.eval o).run P w = .ok (.value v) w) (hk:∀ K:Act→World→Prop,(∀ a w,wpList P ops Q rest a w→K a w)→K (a.put o.dst v) w):wpList P ops Q (o :: rest) a w :=
 wpList_opv hgd v w h (hk _ fun _ _ h=>h)
theorem exec_build {o:Oper} {ev:Operand→Value} {w:World} (t:TypeId) (parts:Array (Nat × Operand)) (parts':Array (Nat × Value)) (cells:Array Value) (ho:o.op = .build t parts) (hp:(parts.map fun (i,x)=>(i,ev x))=parts') (h:P.built t parts'.toList=some cells):(execOp ev o).run P w = .ok (.value (.agg cells)) w:=by
 unfold execOp
 simp only [ho,hp,Sem.run_bind,Sem.run_pure,Result.andThen_ok,run_build w t parts' cells h]
theorem wpList_rowK {ops:Array Oper} {rest:List Oper} {o:Oper} {a:Act} {w:World} {Q:Exit→Act→World→Prop} (hgd:o.guard=none) (ty:TypeId) (x y:Operand) (ho:o.op = .store ty x y)
  (g:Nat) (cells:Array Value) (hx:a.eval x = .pointer (some ⟨g,0,none⟩)) (hy:a.eval y = .agg cells)
  (t:TypeId) (old:Array Value) (hg:w.heap[g]? = some (.cells old t (0,0))) (hi:(P.info? ty).map (·.size)=some cells.size)
  (hold:old.size=cells.size) (h1:cells.all (·.oneCell')=true)
  (h:∀ K:Act→World→Prop,(∀ a w,wpList P ops Q rest a w→K a w)→K (a.put o.dst undef) (w.setRow g cells)):wpList P ops Q (o :: rest) a w :=
 wpList_store_row hgd ty x y ho g cells hx hy t old hg hi hold h1 (h _ fun _ _ h=>h)
theorem wpList_midK {ops:Array Oper} {rest:List Oper} {o:Oper} {a:Act} {w:World} {Q:Exit→Act→World→Prop} (hgd:o.guard=none) (ty:TypeId) (x y:Operand) (ho:o.op = .store ty x y)
  (b i:Nat) (cells:Array Value) (hx:a.eval x = .pointer (some ⟨b,i,none⟩)) (hy:a.eval y = .agg cells) (ht:w.there b i cells.size) (hi:(P.info? ty).map (·.size)=some cells.size) (h1:cells.all (·.oneCell')=true)
  (h:∀ K:Act→World→Prop,(∀ a w,wpList P ops Q rest a w→K a w)→K (a.put o.dst undef) (w.setCells b i cells.toList)):wpList P ops Q (o :: rest) a w :=
 wpList_store_mid hgd ty x y ho b i cells hx hy ht hi h1 (h _ fun _ _ h=>h)
theorem there_of {w:World} {g:Nat} {cs:Array Value} {t:TypeId} (h:w.heap[g]? = some (.cells cs t (0,0))) (o n:Nat) (hn:o+n≤cs.size):w.there g o n:=fun j hj =>
 ⟨by rw [cell_of h,Array.getElem?_eq_getElem (by omega)];rfl,frozen_of h _⟩
def putAt (cs:Array Value) (o:Nat):List Value→Array Value
 | []=>cs
 | v :: r=>putAt (cs.setIfInBounds o v) (o+1) r
theorem setCells_at {g:Nat} {t:TypeId}:∀ (vs:List Value) (o:Nat) (cs:Array Value) (w:World),w.heap[g]? = some (.cells cs t (0,0))→(w.setCells g o vs).heap[g]? = some (.cells (putAt cs o vs) t (0,0))∧Keep [g] w (w.setCells g o vs)
 | [],_,_,w,h=>⟨h,Keep.refl _ w⟩
 | v :: r,o,cs,w,h=>by
  obtain⟨h1,h2⟩:=setCells_at r (o+1) _ _ (set_same h o v)
  exact ⟨h1,(Keep.setCell [g] w g o v (by simp)).trans h2 (by simp)⟩
theorem setRow_at {w:World} {g:Nat} {old cs:Array Value} {t:TypeId} (h:w.heap[g]? = some (.cells old t (0,0))):∃ W,w.setRow g cs=W∧W.heap[g]? = some (.cells cs t (0,0))∧Keep [g] w W:=by
 refine ⟨_,rfl,?_,⟨rfl,rfl,rfl,by simp [World.setRow],Nat.le_refl _,fun k hk hn=>?_⟩⟩
 ·simp [World.setRow,Array.getElem?_modify,h]
 simp only [World.setRow,Array.getElem?_modify]
 rw [if_neg (by intro e;subst e;simp at hn)]
end
theorem k_size:(Tryz.prog.info? 36).map (·.size)=some 9:=by
 obtain⟨i,z,hi,hz,hs,hb,hzc⟩:=real_info
 rw [hi]
 exact congrArg some hs
theorem iv_size (x:Iv K):(Tryz.prog.info? 49).map (·.size)=some (iC x).size:=by
 obtain⟨i,z,hi,hz,hs,hb,hzc⟩:=iv_info
 rw [hi]
 exact congrArg some hs
theorem iv_ones (x:Iv K):(iC x).all (·.oneCell')=true:=all_oneCell_toArray (icells_one x)
end
def bcells (b:Bd K):List Value:=kcells b.pt.1++[.bool b.beh]
def bv (b:Bd K):Value:=.agg (bcells b).toArray
theorem bv_cells (b:Bd K):bv b = .agg #[.bool (sgB b.pt.1.p.num),.string (mgS b.pt.1.p.num),.bool false,.string (dnS b.pt.1.p.den),.bool (sgB b.pt.1.r.num),.string (mgS b.pt.1.r.num),.bool false,.string (dnS b.pt.1.r.den),.bool b.pt.1.neg,.bool b.beh]:=rfl
theorem border_built (f1 f4 f7 o:Bool) (f2 f3 f5 f6:ByteArray):Tryz.prog.built 110 [(0,.agg #[.bool f1,.string f2,.bool false,.string f3,.bool f4,.string f5,.bool false,.string f6,.bool f7]),(1,.bool o)]=some #[.bool f1,.string f2,.bool false,.string f3,.bool f4,.string f5,.bool false,.string f6,.bool f7,.bool o]:=by kernel_rfl
theorem iv_built (f1 f4 f7 t1 t4 t7 o c:Bool) (f2 f3 f5 f6 t2 t3 t5 t6:ByteArray):Tryz.prog.built 49 [(0,.agg #[.bool f1,.string f2,.bool false,.string f3,.bool f4,.string f5,.bool false,.string f6,.bool f7]),(1,.agg #[.bool t1,.string t2,.bool false,.string t3,.bool t4,.string t5,.bool false,.string t6,.bool t7]),(2,.bool o),(3,.bool c)]=some #[.bool f1,.string f2,.bool false,.string f3,.bool f4,.string f5,.bool false,.string f6,.bool f7,.bool t1,.string t2,.bool false,.string t3,.bool t4,.string t5,.bool false,.string t6,.bool t7,.bool o,.bool c]:=by kernel_rfl
theorem first_c (i:Iv K) (w:World):Calls Tryz.prog 106 #[iv i] w fun e w'=>e = .returned (bv i.f)∧Keep [] w w':=by
 rw [iv_cells,bv_cells]
 generalize sgB (i.f.pt.1).p.num=f1 at *
 generalize mgS (i.f.pt.1).p.num=f2 at *
 generalize dnS (i.f.pt.1).p.den=f3 at *
 generalize sgB (i.f.pt.1).r.num=f4 at *
 generalize mgS (i.f.pt.1).r.num=f5 at *
 generalize dnS (i.f.pt.1).r.den=f6 at *
 generalize (i.f.pt.1).neg=f7 at *
 generalize sgB (i.l.pt.1).p.num=t1 at *
 generalize mgS (i.l.pt.1).p.num=t2 at *
 generalize dnS (i.l.pt.1).p.den=t3 at *
 generalize sgB (i.l.pt.1).r.num=t4 at *
 generalize mgS (i.l.pt.1).r.num=t5 at *
 generalize dnS (i.l.pt.1).r.den=t6 at *
 generalize (i.l.pt.1).neg=t7 at *
 generalize i.f.beh=o at *
 generalize (!i.l.beh)=c at *
 have hbd:=fun w=>run_build (P:=Tryz.prog) w 110 #[(0,.agg #[.bool f1,.string f2,.bool false,.string f3,.bool f4,.string f5,.bool false,.string f6,.bool f7]),(1,.bool o)] _ (border_built _ _ _ _ _ _ _ _)
 go_enter Tryz.func106,Tryz.ntmps106
 go_upto_region 1 with (fail)
 obtain⟨W,ga,gb,hW,ega,egb,Bga,Bgb,hga,hgb,hgW,HkW⟩:=al2h w (.cells #[.bool f1,.string f2,.bool false,.string f3,.bool f4,.string f5,.bool false,.string f6,.bool f7,.bool t1,.string t2,.bool false,.string t3,.bool t4,.string t5,.bool false,.string t6,.bool t7,.bool o,.bool c] 49) (.cells #[.bool false,.string ⟨#[]⟩,.bool false,.string ⟨#[]⟩,.bool false,.string ⟨#[]⟩,.bool false,.string ⟨#[]⟩,.bool false,.bool false] 110)
 rw [← hW]
 try rw [egb]
 try rw [ega]
 clear hW ega egb
 obtain⟨pga,fga,lga⟩:=jQ Bga
 obtain⟨pgb,fgb,lgb⟩:=jQ Bgb
 go_wp2_with fail
 refine bodyPost_ret (v:=.agg #[.bool f1,.string f2,.bool false,.string f3,.bool f4,.string f5,.bool false,.string f6,.bool f7,.bool o]) ?_ rfl ⟨rfl,by repeat (first|(with_reducible exact HkW.out)|(refine Keep.setPast ?_ _ _ _ (by omega))|(refine Keep.allocPast ?_ _)|(refine Keep.drewPast ?_))⟩
 rw [results_cell1 rfl];go_simp
theorem last_c (i:Iv K) (w:World):Calls Tryz.prog 107 #[iv i] w fun e w'=>e = .returned (bv i.l)∧Keep [] w w':=by
 have hn:i.l.beh = !(!i.l.beh):=by simp
 rw [iv_cells,bv_cells,hn]
 rw [← hn]
 generalize sgB (i.f.pt.1).p.num=f1 at *
 generalize mgS (i.f.pt.1).p.num=f2 at *
 generalize dnS (i.f.pt.1).p.den=f3 at *
 generalize sgB (i.f.pt.1).r.num=f4 at *
 generalize mgS (i.f.pt.1).r.num=f5 at *
 generalize dnS (i.f.pt.1).r.den=f6 at *
 generalize (i.f.pt.1).neg=f7 at *
 generalize sgB (i.l.pt.1).p.num=t1 at *
 generalize mgS (i.l.pt.1).p.num=t2 at *
 generalize dnS (i.l.pt.1).p.den=t3 at *
 generalize sgB (i.l.pt.1).r.num=t4 at *
 generalize mgS (i.l.pt.1).r.num=t5 at *
 generalize dnS (i.l.pt.1).r.den=t6 at *
 generalize (i.l.pt.1).neg=t7 at *
 clear hn
 generalize i.f.beh=o at *
 generalize i.l.beh=c at *
 have hbd:=fun w=>run_build (P:=Tryz.prog) w 110 #[(0,.agg #[.bool t1,.string t2,.bool false,.string t3,.bool t4,.string t5,.bool false,.string t6,.bool t7]),(1,.bool c)] _ (border_built _ _ _ _ _ _ _ _)
 go_enter Tryz.func107,Tryz.ntmps107
 go_upto_region 1 with (fail)
 obtain⟨W,ga,gb,hW,ega,egb,Bga,Bgb,hga,hgb,hgW,HkW⟩:=al2h w (.cells #[.bool f1,.string f2,.bool false,.string f3,.bool f4,.string f5,.bool false,.string f6,.bool f7,.bool t1,.string t2,.bool false,.string t3,.bool t4,.string t5,.bool false,.string t6,.bool t7,.bool o,.bool (!c)] 49) (.cells #[.bool false,.string ⟨#[]⟩,.bool false,.string ⟨#[]⟩,.bool false,.string ⟨#[]⟩,.bool false,.string ⟨#[]⟩,.bool false,.bool false] 110)
 rw [← hW]
 try rw [egb]
 try rw [ega]
 clear hW ega egb
 obtain⟨pga,fga,lga⟩:=jQ Bga
 obtain⟨pgb,fgb,lgb⟩:=jQ Bgb
 go_wp2_with fail
 refine bodyPost_ret (v:=.agg #[.bool t1,.string t2,.bool false,.string t3,.bool t4,.string t5,.bool false,.string t6,.bool t7,.bool c]) ?_ rfl ⟨rfl,by repeat (first|(with_reducible exact HkW.out)|(refine Keep.setPast ?_ _ _ _ (by omega))|(refine Keep.allocPast ?_ _)|(refine Keep.drewPast ?_))⟩
 rw [results_cell1 rfl];go_simp
theorem iv_built' (a b:Bd K):Tryz.prog.built 49 [(0,kv a.pt),(1,kv b.pt),(2,.bool a.beh),(3,.bool (!b.beh))]=some (iC ⟨a,b⟩):=iv_built _ _ _ _ _ _ _ _ _ _ _ _ _ _ _ _
def bC (b:Bd K):Array Value:=(bcells b).toArray
theorem bAt_pt {w:World} {g:Nat} {b:Bd K} {t:TypeId} (h:w.heap[g]? = some (.cells (bC b) t)):KAt w g 0 b.pt.1:=fun k v hk=>by
 rw [Nat.zero_add,cell_of h]
 refine (List.getElem?_toArray ..).trans ?_
 unfold bcells
 rw [List.getElem?_append_left (List.getElem?_eq_some_iff.1 hk).1]
 exact hk
theorem bAt_beh {w:World} {g:Nat} {b:Bd K} {t:TypeId} (h:w.heap[g]? = some (.cells (bC b) t)):w.cell? ⟨g,9,none⟩=some (.bool b.beh):=by
 rw [cell_of h];rfl
theorem between_c (a b:Bd K) (w:World):Calls Tryz.prog 146 #[bv a,bv b] w fun e w'=>e = .returned (iv ⟨a,b⟩)∧Keep [] w w':=by
 show Calls Tryz.prog 146 #[.agg (bC a),.agg (bC b)] w _
 have HA:=jX (fun w g=>@bAt_pt w g a 110)
 have HB:=jX (fun w g=>@bAt_pt w g b 110)
 have HA2:=jX (fun w g=>@bAt_beh w g a 110)
 have HB2:=jX (fun w g=>@bAt_beh w g b 110)
 have HI:=jX (iv_built' a b)
 have HS:=jX (iv_size ⟨a,b⟩)
 have HO:=jX (iv_ones ⟨a,b⟩)
 have HL:=jX (fun w g (h:w.heap[g]? = some (.cells (iC ⟨a,b⟩) 49))=>load_iv w g 0 ⟨a,b⟩ (ivAt_box h))
 have Hsz:Hid ((iC ⟨a,b⟩).size=20):=rfl
 generalize iv ⟨a,b⟩=R at *
 generalize bC a=A at *
 generalize bC b=B at *
 generalize iC ⟨a,b⟩=C at *
 go_enter Tryz.func146,Tryz.ntmps146
 go_upto_region 1 with (fail)
 obtain⟨W,ga,gb,gc,hW,ega,egb,egc,Bga,Bgb,Bgc,hga,hgb,hgc,hgW,HkW⟩:=al3h w (.cells A 110) (.cells B 110) (.cells #[.bool false,.string ⟨#[]⟩,.bool false,.string ⟨#[]⟩,.bool false,.string ⟨#[]⟩,.bool false,.string ⟨#[]⟩,.bool false,.bool false,.string ⟨#[]⟩,.bool false,.string ⟨#[]⟩,.bool false,.string ⟨#[]⟩,.bool false,.string ⟨#[]⟩,.bool false,.bool false,.bool false] 49)
 rw [← hW]
 try rw [egc]
 try rw [egb]
 try rw [ega]
 clear hW ega egb egc
 have La:=HA.out _ _ Bga.out
 have Lb:=HB.out _ _ Bgb.out
 have oa:=HA2.out _ _ Bga.out
 have ob:=HB2.out _ _ Bgb.out
 refine wp_region_lit ?_
 refine' wpList_R (v:=_) (by rfl) (?ha) (fun K hK=>?ka)
 case ha=>(go_simp;try rfl)
 go_simp
 refine hK _ _ ?_
 clear hK K
 refine wpList_R (v:=kv a.pt) (by rfl) (exec_load _ _ ⟨ga,0,none⟩ _ rfl rfl (load_real _ _ _ _ La)) (fun K hK=>?_)
 go_simp
 refine hK _ _ ?_
 clear hK K
 refine' wpList_R (v:=_) (by rfl) (?hb) (fun K hK=>?kb)
 case hb=>(go_simp;try rfl)
 go_simp
 refine hK _ _ ?_
 clear hK K
 refine wpList_R (v:=kv b.pt) (by rfl) (exec_load _ _ ⟨gb,0,none⟩ _ rfl rfl (load_real _ _ _ _ Lb)) (fun K hK=>?_)
 go_simp
 refine hK _ _ ?_
 clear hK K
 refine' wpList_R (v:=_) (by rfl) (?hc) (fun K hK=>?kc)
 case hc=>(go_simp;try rfl)
 go_simp
 refine hK _ _ ?_
 clear hK K
 refine' wpList_R (v:=_) (by rfl) (?hd) (fun K hK=>?kd)
 case hd=>(go_simp;try rfl)
 go_simp
 refine hK _ _ ?_
 clear hK K
 refine' wpList_R (v:=_) (by rfl) (?he) (fun K hK=>?ke)
 case he=>(go_simp;try rfl)
 go_simp
 refine hK _ _ ?_
 clear hK K
 refine' wpList_R (v:=_) (by rfl) (?hf) (fun K hK=>?kf)
 case hf=>(go_simp;try rfl)
 go_simp
 refine hK _ _ ?_
 clear hK K
 refine' wpList_R (v:=_) (by rfl) (?hg) (fun K hK=>?kg)
 case hg=>(go_simp;try rfl)
 go_simp
 refine hK _ _ ?_
 clear hK K
 refine wpList_R (v:=.agg C) (by rfl) (exec_build _ #[(0,.tmp 6),(1,.tmp 8),(2,.tmp 10),(3,.tmp 13)] #[(0,kv a.pt),(1,kv b.pt),(2,.bool a.beh),(3,.bool (!b.beh))] _ rfl (by simp only [List.map_toArray,List.map_cons,List.map_nil];rfl) HI.out) (fun K hK=>?_)
 go_simp
 refine hK _ _ ?_
 clear hK K
 refine wpList_rowK (by rfl) _ _ _ rfl gc C rfl rfl _ _ Bgc.out HS.out (by rw [Hsz.out];rfl) HO.out (fun K hK=>?_)
 obtain⟨W4,e4,b4,k4⟩:=setRow_at (cs:=C) Bgc.out
 rw [e4]
 go_simp
 refine hK _ _ ?_
 clear hK K
 have Hb4:=jX b4
 have HkZ:=jX (HkW.out.trans k4 (by simp;omega))
 clear La Lb oa ob b4 k4 e4
 go_wp2_with fail
 refine bodyPost_ret (v:=R) ?_ rfl ⟨rfl,HkZ.out⟩
 rw [results_cell1 rfl]
 exact HL.out _ _ Hb4.out
theorem krcmp_c (x y:K) (w:World):Calls Tryz.prog 77 #[kv x,kv y] w fun e w'=>e = .returned (.int .i64 (cmpQ x.1 y.1))∧Keep [] w w' :=
 RCompare_c x.1 y.1 ⟨x.2.2.1.mono (by decide),x.2.2.2.mono (by decide)⟩ ⟨y.2.2.1.mono (by decide),y.2.2.2.mono (by decide)⟩ w
theorem bcmp_c (a b:Bd K) (w:World):Calls Tryz.prog 105 #[bv a,bv b] w fun e w'=>e = .returned (.int .i64 (cmpB a b))∧Keep [] w w':=by
 have H1:=jX (krcmp_c a.pt b.pt)
 have hc:=cmp_tri a.pt b.pt
 unfold cmpB
 rw [bv_cells,bv_cells]
 rw [kv_cells,kv_cells] at H1
 generalize cmpQ a.pt.1 b.pt.1=n at *
 generalize sgB (a.pt.1).p.num=f1 at *
 generalize mgS (a.pt.1).p.num=f2 at *
 generalize dnS (a.pt.1).p.den=f3 at *
 generalize sgB (a.pt.1).r.num=f4 at *
 generalize mgS (a.pt.1).r.num=f5 at *
 generalize dnS (a.pt.1).r.den=f6 at *
 generalize (a.pt.1).neg=f7 at *
 generalize sgB (b.pt.1).p.num=t1 at *
 generalize mgS (b.pt.1).p.num=t2 at *
 generalize dnS (b.pt.1).p.den=t3 at *
 generalize sgB (b.pt.1).r.num=t4 at *
 generalize mgS (b.pt.1).r.num=t5 at *
 generalize dnS (b.pt.1).r.den=t6 at *
 generalize (b.pt.1).neg=t7 at *
 generalize a.beh=o at *
 generalize b.beh=c at *
 rcases hc with rfl|rfl|rfl
 ·rw [if_neg (by decide)]
  go_enter Tryz.func105,Tryz.ntmps105
  go_upto_region 1 with (fail)
  obtain⟨W,ga,gb,hW,ega,egb,Bga,Bgb,hga,hgb,hgW,HkW⟩:=al2h w (.cells #[.bool f1,.string f2,.bool false,.string f3,.bool f4,.string f5,.bool false,.string f6,.bool f7,.bool o] 110) (.cells #[.bool t1,.string t2,.bool false,.string t3,.bool t4,.string t5,.bool false,.string t6,.bool t7,.bool c] 110)
  rw [← hW]
  try rw [egb]
  try rw [ega]
  clear hW ega egb
  obtain⟨pga,fga,lga⟩:=jQ Bga
  obtain⟨pgb,fgb,lgb⟩:=jQ Bgb
  go_wp2_with fail
  refine (H1.out _).mono ?_
  rintro e w1 ⟨rfl,hk_w1⟩
  dsimp only
  clear pga fga lga pgb fgb lgb
  replace Bga:=jH hk_w1 Bga
  replace Bgb:=jH hk_w1 Bgb
  replace HkW:=jX (HkW.out.trans0 hk_w1)
  clear hk_w1
  obtain⟨pga,fga,lga⟩:=jQ Bga
  obtain⟨pgb,fgb,lgb⟩:=jQ Bgb
  go_wp2_with fail
  go_ret
  exact ⟨rfl,by repeat (first|(with_reducible exact HkW.out)|(refine Keep.setPast ?_ _ _ _ (by omega))|(refine Keep.allocPast ?_ _)|(refine Keep.drewPast ?_))⟩
 ·rw [if_pos rfl]
  cases o<;>cases c
  ·rw [if_pos rfl]
   go_enter Tryz.func105,Tryz.ntmps105
   go_upto_region 1 with (fail)
   obtain⟨W,ga,gb,hW,ega,egb,Bga,Bgb,hga,hgb,hgW,HkW⟩:=al2h w (.cells #[.bool f1,.string f2,.bool false,.string f3,.bool f4,.string f5,.bool false,.string f6,.bool f7,.bool false] 110) (.cells #[.bool t1,.string t2,.bool false,.string t3,.bool t4,.string t5,.bool false,.string t6,.bool t7,.bool false] 110)
   rw [← hW]
   try rw [egb]
   try rw [ega]
   clear hW ega egb
   obtain⟨pga,fga,lga⟩:=jQ Bga
   obtain⟨pgb,fgb,lgb⟩:=jQ Bgb
   go_wp2_with fail
   refine (H1.out _).mono ?_
   rintro e w1 ⟨rfl,hk_w1⟩
   dsimp only
   clear pga fga lga pgb fgb lgb
   replace Bga:=jH hk_w1 Bga
   replace Bgb:=jH hk_w1 Bgb
   replace HkW:=jX (HkW.out.trans0 hk_w1)
   clear hk_w1
   obtain⟨pga,fga,lga⟩:=jQ Bga
   obtain⟨pgb,fgb,lgb⟩:=jQ Bgb
   go_wp2_with fail
   go_ret
   exact ⟨rfl,by repeat (first|(with_reducible exact HkW.out)|(refine Keep.setPast ?_ _ _ _ (by omega))|(refine Keep.allocPast ?_ _)|(refine Keep.drewPast ?_))⟩
  ·rw [if_neg (by decide),if_pos rfl]
   go_enter Tryz.func105,Tryz.ntmps105
   go_upto_region 1 with (fail)
   obtain⟨W,ga,gb,hW,ega,egb,Bga,Bgb,hga,hgb,hgW,HkW⟩:=al2h w (.cells #[.bool f1,.string f2,.bool false,.string f3,.bool f4,.string f5,.bool false,.string f6,.bool f7,.bool false] 110) (.cells #[.bool t1,.string t2,.bool false,.string t3,.bool t4,.string t5,.bool false,.string t6,.bool t7,.bool true] 110)
   rw [← hW]
   try rw [egb]
   try rw [ega]
   clear hW ega egb
   obtain⟨pga,fga,lga⟩:=jQ Bga
   obtain⟨pgb,fgb,lgb⟩:=jQ Bgb
   go_wp2_with fail
   refine (H1.out _).mono ?_
   rintro e w1 ⟨rfl,hk_w1⟩
   dsimp only
   clear pga fga lga pgb fgb lgb
   replace Bga:=jH hk_w1 Bga
   replace Bgb:=jH hk_w1 Bgb
   replace HkW:=jX (HkW.out.trans0 hk_w1)
   clear hk_w1
   obtain⟨pga,fga,lga⟩:=jQ Bga
   obtain⟨pgb,fgb,lgb⟩:=jQ Bgb
   go_wp2_with fail
   go_ret
   exact ⟨rfl,by repeat (first|(with_reducible exact HkW.out)|(refine Keep.setPast ?_ _ _ _ (by omega))|(refine Keep.allocPast ?_ _)|(refine Keep.drewPast ?_))⟩
  ·rw [if_neg (by decide),if_neg (by decide)]
   go_enter Tryz.func105,Tryz.ntmps105
   go_upto_region 1 with (fail)
   obtain⟨W,ga,gb,hW,ega,egb,Bga,Bgb,hga,hgb,hgW,HkW⟩:=al2h w (.cells #[.bool f1,.string f2,.bool false,.string f3,.bool f4,.string f5,.bool false,.string f6,.bool f7,.bool true] 110) (.cells #[.bool t1,.string t2,.bool false,.string t3,.bool t4,.string t5,.bool false,.string t6,.bool t7,.bool false] 110)
   rw [← hW]
   try rw [egb]
   try rw [ega]
   clear hW ega egb
   obtain⟨pga,fga,lga⟩:=jQ Bga
   obtain⟨pgb,fgb,lgb⟩:=jQ Bgb
   go_wp2_with fail
   refine (H1.out _).mono ?_
   rintro e w1 ⟨rfl,hk_w1⟩
   dsimp only
   clear pga fga lga pgb fgb lgb
   replace Bga:=jH hk_w1 Bga
   replace Bgb:=jH hk_w1 Bgb
   replace HkW:=jX (HkW.out.trans0 hk_w1)
   clear hk_w1
   obtain⟨pga,fga,lga⟩:=jQ Bga
   obtain⟨pgb,fgb,lgb⟩:=jQ Bgb
   go_wp2_with fail
   go_ret
   exact ⟨rfl,by repeat (first|(with_reducible exact HkW.out)|(refine Keep.setPast ?_ _ _ _ (by omega))|(refine Keep.allocPast ?_ _)|(refine Keep.drewPast ?_))⟩
  rw [if_pos rfl]
  go_enter Tryz.func105,Tryz.ntmps105
  go_upto_region 1 with (fail)
  obtain⟨W,ga,gb,hW,ega,egb,Bga,Bgb,hga,hgb,hgW,HkW⟩:=al2h w (.cells #[.bool f1,.string f2,.bool false,.string f3,.bool f4,.string f5,.bool false,.string f6,.bool f7,.bool true] 110) (.cells #[.bool t1,.string t2,.bool false,.string t3,.bool t4,.string t5,.bool false,.string t6,.bool t7,.bool true] 110)
  rw [← hW]
  try rw [egb]
  try rw [ega]
  clear hW ega egb
  obtain⟨pga,fga,lga⟩:=jQ Bga
  obtain⟨pgb,fgb,lgb⟩:=jQ Bgb
  go_wp2_with fail
  refine (H1.out _).mono ?_
  rintro e w1 ⟨rfl,hk_w1⟩
  dsimp only
  clear pga fga lga pgb fgb lgb
  replace Bga:=jH hk_w1 Bga
  replace Bgb:=jH hk_w1 Bgb
  replace HkW:=jX (HkW.out.trans0 hk_w1)
  clear hk_w1
  obtain⟨pga,fga,lga⟩:=jQ Bga
  obtain⟨pgb,fgb,lgb⟩:=jQ Bgb
  go_wp2_with fail
  go_ret
  exact ⟨rfl,by repeat (first|(with_reducible exact HkW.out)|(refine Keep.setPast ?_ _ _ _ (by omega))|(refine Keep.allocPast ?_ _)|(refine Keep.drewPast ?_))⟩
 rw [if_neg (by decide)]
 go_enter Tryz.func105,Tryz.ntmps105
 go_upto_region 1 with (fail)
 obtain⟨W,ga,gb,hW,ega,egb,Bga,Bgb,hga,hgb,hgW,HkW⟩:=al2h w (.cells #[.bool f1,.string f2,.bool false,.string f3,.bool f4,.string f5,.bool false,.string f6,.bool f7,.bool o] 110) (.cells #[.bool t1,.string t2,.bool false,.string t3,.bool t4,.string t5,.bool false,.string t6,.bool t7,.bool c] 110)
 rw [← hW]
 try rw [egb]
 try rw [ega]
 clear hW ega egb
 obtain⟨pga,fga,lga⟩:=jQ Bga
 obtain⟨pgb,fgb,lgb⟩:=jQ Bgb
 go_wp2_with fail
 refine (H1.out _).mono ?_
 rintro e w1 ⟨rfl,hk_w1⟩
 dsimp only
 clear pga fga lga pgb fgb lgb
 replace Bga:=jH hk_w1 Bga
 replace Bgb:=jH hk_w1 Bgb
 replace HkW:=jX (HkW.out.trans0 hk_w1)
 clear hk_w1
 obtain⟨pga,fga,lga⟩:=jQ Bga
 obtain⟨pgb,fgb,lgb⟩:=jQ Bgb
 go_wp2_with fail
 go_ret
 exact ⟨rfl,by repeat (first|(with_reducible exact HkW.out)|(refine Keep.setPast ?_ _ _ _ (by omega))|(refine Keep.allocPast ?_ _)|(refine Keep.drewPast ?_))⟩
theorem putAt_size:∀ (vs:List Value) (o:Nat) (cs:Array Value),(putAt cs o vs).size=cs.size
 | [],_,_=>rfl
 | v :: r,o,cs=>by unfold putAt;rw [putAt_size r];simp
theorem set_take (L:List Value) (o:Nat) (v:Value) (h:o<L.length):(L.set o v).take (o+1)=L.take o++[v]:=by
 rw [List.take_succ_eq_append_getElem (by simpa using h),List.take_set_of_le (Nat.le_refl _),List.getElem_set_self]
theorem putAt_list:∀ (vs:List Value) (o:Nat) (cs:Array Value),o+vs.length≤cs.size→(putAt cs o vs).toList=cs.toList.take o++vs++cs.toList.drop (o+vs.length)
 | [],o,cs,h=>by unfold putAt;simp
 | v :: r,o,cs,h=>by
  have ho:o<cs.toList.length:=by simp at h ⊢;omega
  unfold putAt
  rw [putAt_list r (o+1) _ (by simp at h ⊢;omega),Array.toList_setIfInBounds,set_take _ _ _ ho,List.drop_set_of_lt (by omega),List.length_cons,List.append_assoc,List.append_assoc,List.append_assoc]
  have e:o+1+r.length=o+(r.length+1):=by omega
  rw [e]
  rfl
def setL (xs:List Value) (o:Nat) (vs:List Value):List Value:=xs.take o++vs++xs.drop (o+vs.length)
theorem setL_len {xs vs:List Value} {o:Nat} (h:o+vs.length≤xs.length):(setL xs o vs).length=xs.length:=by
 unfold setL
 rw [List.length_append,List.length_append,List.length_take,List.length_drop]
 omega
theorem own_setCells {w:World} {e:TypeId} {k n g c:Nat} {xs vs:List Value} {o:Nat} (h:w.ownsRow 0 e k (.slice (some ⟨g,0,none⟩) n c) n xs) (ho:o+vs.length≤n*k) :
  (w.setCells g o vs).ownsRow 0 e k (.slice (some ⟨g,0,none⟩) n c) n (setL xs o vs)∧Keep [g] w (w.setCells g o vs):=by
 have hx:=h.1
 rcases h.2 with ⟨hv,_⟩|⟨g',cap,cur,hv,hb,hg,hnc,hcm,hcs,htake⟩
 ·cases hv
 injection hv with e1 e2 e3
 injection e1 with e1
 injection e1 with e1
 subst e1 e3
 obtain⟨h1,h2⟩:=setCells_at vs o cur w hg
 have hle:n*k≤c*k:=Nat.mul_le_mul_right _ hnc
 refine ⟨⟨by rw [setL_len (by omega)];exact hx,.inr ⟨g,c,_,rfl,hb,h1,hnc,hcm,by rw [putAt_size];exact hcs,?_⟩⟩,h2⟩
 rw [putAt_list vs o cur (by omega),← htake]
 have hl:cur.toList.length=c*k:=by simpa using hcs
 unfold setL
 rw [List.take_append,List.take_append,List.take_of_length_le (l:=cur.toList.take o) (by rw [List.length_take];omega),List.take_of_length_le (l:=vs) (by rw [List.length_take];omega),List.take_take,Nat.min_eq_left (by omega),List.drop_take,List.length_append,List.length_take,Nat.min_eq_left (by omega)]
theorem flat_last (l:List (Iv K)) (i:Iv K) (t:K) (b:Bool):setL (setL ((l++[i]).flatMap fun i=>icells i) (l.length*20+9) (kcells t.1)) (l.length*20+19) [.bool b]=(l++[(⟨i.f,⟨t,!b⟩⟩:Iv K)]).flatMap fun i=>icells i:=by
 have hl:(l.flatMap fun i=>icells i).length=l.length*20:=flat_len (fun i:Iv K=>icells i) icells_len l
 rw [List.flatMap_append,List.flatMap_append]
 generalize (l.flatMap fun i=>icells i)=F at *
 have e1:([i].flatMap fun i=>icells i)=icells i:=by simp
 have e2:([(⟨i.f,⟨t,!b⟩⟩:Iv K)].flatMap fun i=>icells i)=icells ⟨i.f,⟨t,!b⟩⟩:=by simp
 rw [e1,e2,← hl]
 have step:∀ (G vs:List Value) (j:Nat),setL (F++G) (F.length+j) vs=F++setL G j vs:=fun G vs j=>by
  unfold setL
  rw [List.take_length_add_append,Nat.add_assoc,List.drop_length_add_append,List.append_assoc,List.append_assoc,List.append_assoc]
 rw [step,step]
 congr 1
 cases b<;>rfl
theorem OI_.setl {w0 w:World} {g c:Nat} {l:List (Iv K)} {i:Iv K} (h:OI_ w0 w (.slice (some ⟨g,0,none⟩) (l.length+1) c) (l++[i])) (t:K) (b:Bool) :
  OI_ w0 ((w.setCells g (l.length*20+9) (kcells t.1)).setCells g (l.length*20+19) [.bool b]) (.slice (some ⟨g,0,none⟩) (l.length+1) c) (l++[⟨i.f,⟨t,!b⟩⟩]):=by
 have hr:=h.row
 rw [List.length_append,List.length_singleton] at hr
 obtain⟨h1,k1⟩:=own_setCells hr (o:=l.length*20+9) (vs:=kcells t.1) (by rw [kcells_len];omega)
 obtain⟨h2,k2⟩:=own_setCells h1 (o:=l.length*20+19) (vs:=[.bool b]) (by simp;omega)
 rw [flat_last] at h2
 have hg:=h.base g rfl
 refine ⟨by rw [List.length_append,List.length_singleton];exact h2,h.base,(h.keep.trans k1 (by simp;exact hg)).trans k2 (by simp;exact hg)⟩
theorem own_there {w:World} {e:TypeId} {k n g c:Nat} {xs:List Value} {o m:Nat} (h:w.ownsRow 0 e k (.slice (some ⟨g,0,none⟩) n c) n xs) (ho:o+m≤n*k):w.there g o m:=by
 rcases h.2 with ⟨hv,_⟩|⟨g',cap,cur,hv,hb,hg,hnc,hcm,hcs,htake⟩
 ·cases hv
 injection hv with e1 e2 e3
 injection e1 with e1
 injection e1 with e1
 subst e1 e3
 have hle:n*k≤c*k:=Nat.mul_le_mul_right _ hnc
 exact there_of hg o m (by omega)
theorem wpList_cellK {P:Program} {ops:Array Oper} {rest:List Oper} {o:Oper} {a:Act} {w:World} {Q:Exit→Act→World→Prop} (hgd:o.guard=none) (ty:TypeId) (x y:Operand) (ho:o.op = .store ty x y)
  (b i:Nat) (v:Value) (hx:a.eval x = .pointer (some ⟨b,i,none⟩)) (hy:a.eval y=v) (h1:v.oneCell'=true) (ht:w.there b i 1) (hi:(P.info? ty).map (·.size)=some 1)
  (h:∀ K:Act→World→Prop,(∀ a w,wpList P ops Q rest a w→K a w)→K (a.put o.dst undef) (w.setCells b i [v])):wpList P ops Q (o :: rest) a w :=
 wpList_plain hgd fun K hK=>by
  have hs:(storeVar ty ⟨b,i,none⟩ v).run P w = .ok () (w.setCells b i [v]):=by
   have:=run_storeCells_cells (P:=P) b i [v] 0 w (fun j hj=>by simpa using (ht j (by simpa using hj)).1) (fun j hj=>by simpa using (ht j (by simpa using hj)).2) (fun u hu=>by simp at hu;subst hu;exact h1)
   have hc:v.cells = #[v]:=by cases v<;>first|rfl|cases h1
   cases hq:P.info? ty with
   | none=>simp [hq] at hi
   | some i =>
    have hs:i.size=1:=by simpa [hq] using hi
    simp only [Nat.add_zero] at this
    simp [storeVar,sizeOf,typeInfo,hq,hc,hs,this]
  unfold Oper.wp execOp
  simp only [ho,hx,hy,Instr.storeAt,Instr.sureAddr,Sem.run_bind,Sem.run_pure,Result.andThen_ok,hs]
  exact h K hK
theorem OI_.last {w0 w:World} {ov:Option Addr} {c:Nat} {l:List (Iv K)} {i:Iv K} (h:OI_ w0 w (.slice ov (l.length+1) c) (l++[i])) :
  ∃ g,ov=some ⟨g,0,none⟩∧g<w.heap.size∧w0.heap.size≤g∧w.there g (l.length*20+9) 9∧∀ t:K,(w.setCells g (l.length*20+9) (kcells t.1)).there g (l.length*20+19) 1:=by
 have hr:=h.row
 rw [List.length_append,List.length_singleton] at hr
 have hb:=h.base
 rcases hr.2 with ⟨hv,_⟩|⟨g,cap,cur,hv,_,hg,_⟩
 ·cases hv
 injection hv with e1 e2 e3
 subst e1 e3
 refine ⟨g,rfl,lt_of_heap hg,hb g rfl,own_there hr (by omega),fun t=>?_⟩
 obtain⟨h1,k1⟩:=own_setCells hr (o:=l.length*20+9) (vs:=kcells t.1) (by rw [kcells_len];omega)
 exact own_there h1 (by omega)
end Go.Proofs.YtejegogbhpmgfaaGreatDoor
