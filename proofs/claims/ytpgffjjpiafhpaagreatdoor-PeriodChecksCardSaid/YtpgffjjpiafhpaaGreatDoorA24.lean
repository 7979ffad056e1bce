/- Parts of a proof about this translation: Tf, Tg, Th, Tl. -/
import Derived.Deep.MidRow
import Derived.Test.YtpgffjjpiafhpaaGreatDoorA23
import Derived.Test.YtpgffjjpiafhpaaGreatDoorA18
set_option linter.unusedVariables false
set_option linter.unusedSimpArgs false
set_option maxRecDepth 100000
set_option maxHeartbeats 8000000
namespace Go.Proofs.YtpgffjjpiafhpaaGreatDoor
open Go.RowKit
section
open Classical
theorem infoIvB:(Tryz.prog.info? 32).map (fun i=>(i.zero.map Value.cells,i.size,i.bytes))=some (some #[.bool false,.string ⟨#[]⟩,.bool false,.string ⟨#[]⟩,.bool false,.string ⟨#[]⟩,.bool false,.string ⟨#[]⟩,.bool false,.bool false,.string ⟨#[]⟩,.bool false,.string ⟨#[]⟩,.bool false,.string ⟨#[]⟩,.bool false,.string ⟨#[]⟩,.bool false,.bool false,.bool false],20,216):=by kernel_rfl
theorem iv_info:∃ i z,Tryz.prog.info? 32=some i∧i.zero=some z∧i.size=20∧i.bytes=216∧z.cells = #[.bool false,.string ⟨#[]⟩,.bool false,.string ⟨#[]⟩,.bool false,.string ⟨#[]⟩,.bool false,.string ⟨#[]⟩,.bool false,.bool false,.string ⟨#[]⟩,.bool false,.string ⟨#[]⟩,.bool false,.string ⟨#[]⟩,.bool false,.string ⟨#[]⟩,.bool false,.bool false,.bool false]:=by
 have h:=infoIvB
 cases hi:Tryz.prog.info? 32 with
 | none=>rw [hi] at h;cases h
 | some i =>
  rw [hi] at h
  simp only [Option.map_some,Option.some.injEq,Prod.mk.injEq] at h
  obtain⟨h1,h2,h3⟩:=h
  cases hz:i.zero with
  | none=>rw [hz] at h1;cases h1
  | some z =>
   rw [hz] at h1
   injection h1 with h1
   exact ⟨i,z,rfl,hz,h2,h3,h1⟩
theorem fill_i (f1 f4 f7 t1 t4 t7 o c:Bool) (f2 f3 f5 f6 t2 t3 t5 t6:ByteArray):Instr.fill (fun i=>some (i*20,20)) ((Array.range (1*20)).map ((#[.bool false,.string ⟨#[]⟩,.bool false,.string ⟨#[]⟩,.bool false,.string ⟨#[]⟩,.bool false,.string ⟨#[]⟩,.bool false,.bool false,.string ⟨#[]⟩,.bool false,.string ⟨#[]⟩,.bool false,.string ⟨#[]⟩,.bool false,.string ⟨#[]⟩,.bool false,.bool false,.bool false]:Array Value)[· % (#[.bool false,.string ⟨#[]⟩,.bool false,.string ⟨#[]⟩,.bool false,.string ⟨#[]⟩,.bool false,.string ⟨#[]⟩,.bool false,.bool false,.string ⟨#[]⟩,.bool false,.string ⟨#[]⟩,.bool false,.string ⟨#[]⟩,.bool false,.string ⟨#[]⟩,.bool false,.bool false,.bool false]:Array Value).size]!))
  #[(0, Value.agg #[.bool f1, .string f2, .bool false, .string f3, .bool f4, .string f5, .bool false, .string f6, .bool f7, .bool t1, .string t2, .bool false, .string t3, .bool t4, .string t5, .bool false, .string t6, .bool t7, .bool o, .bool c])].toList = some #[.bool f1, .string f2, .bool false, .string f3, .bool f4, .string f5, .bool false, .string f6, .bool f7, .bool t1, .string t2, .bool false, .string t3, .bool t4, .string t5, .bool false, .string t6, .bool t7, .bool o, .bool c] := by kernel_rfl
theorem build1_i (x:Iv K) (w:World):(Instr.buildSlice 22 1 #[(0,iv x)]).run Tryz.prog w = .ok (.slice (some ⟨w.heap.size,0,none⟩) 1 1) (w.alloc (.cells (iC x) 32)):=by
 obtain⟨i,z,hi,hz,hs,hb,hzc⟩:=iv_info
 refine run_buildSlice (P:=Tryz.prog) w 22 32 1 _ _ i z Tryz.underlying22 hi hz (by rw [hs];decide) (by rw [hs];decide) ?_
 rw [hs,hzc,iv_cells]
 exact fill_i _ _ _ _ _ _ _ _ _ _ _ _ _ _ _ _
abbrev OI_:=OE (fun i:Iv K=>icells i) 32 20
theorem IvR.app {ty:TypeId} {w0 w:World} {v y:Value} {l m:List (Iv K)} (h:OI_ w0 w v l) (hv:v.ownBlock≠none∨0<m.length) (hy:IvR w y m) (hb:l.length+m.length≤1000000000) :
  ∃ v' w',(Builtin.append_ #[22,22] ty #[v,y]).run Tryz.prog w = .ok v' w'∧OI_ w0 w' v' (l++m)∧v'.ownBlock≠none∧∀ F,(∀ g,v.ownBlock=some g→g∈F)→Keep F w w':=by
 obtain⟨i,z,hi,hz,hs,hbt,hzc⟩:=iv_info
 exact OE.app (P:=Tryz.prog) (bytes:=216) Tryz.underlying22 hi hz hs hbt (by rw [hzc];rfl) (by decide) icells_len icells_one h hv hy (by unfold maxLen;omega) (by omega)
theorem OI_.start (w:World):∃ u g,w.alloc (.cells #[] 32)=u∧w.heap.size=g∧u.heap.size=g+1∧OI_ w u (.slice (some ⟨g,0,none⟩) 0 0) []:=⟨_,_,rfl,rfl,by simp,OE.empty w⟩
theorem IvR.single (x:Iv K) (w:World):∃ u g,w.alloc (.cells (iC x) 32)=u∧w.heap.size=g∧u.heap.size=g+1∧Keep [] w u∧IvR u (.slice (some ⟨g,0,none⟩) 1 1) [x]:=by
 refine ⟨_,_,rfl,rfl,by simp,Keep.alloc [] w _,.inr ⟨w.heap.size,0,1,rfl,Nat.le_refl _,by simp,fun i v hv=>?_⟩⟩
 exact ivAt_box (World.alloc_heap_new w (.cells (iC x) 32)) i v (by simpa using hv)
section
variable {P:Program}
theorem wpList_opv {ops:Array Oper} {rest:List Oper} {o:Oper} {a:Act} {w:World} {Q:Exit→Act→World→Prop} (hgd:o.guard=none) (v:Value) (w':World) (h:(execOp a.eval o).run P w = .ok (.value v) w') (hk:wpList P ops Q rest (a.put o.dst v) w'):wpList P ops Q (o :: rest) a w :=
 wpList_plain hgd fun K hK=>wp_op v w' h (hK _ _ hk)
theorem wpList_K {ops:Array Oper} {rest:List Oper} {o:Oper} {a:Act} {w w':World} {v:Value} {Q:Exit→Act→World→Prop} (hgd:o.guard=none) (h:(execOp a.eval o).run P w = .ok (.value v) w') (hk:∀ K:Act→World→Prop,(∀ a w,wpList P ops Q rest a w→K a w)→K (a.put o.dst v) w'):wpList P ops Q (o :: rest) a w :=
 wpList_opv hgd v w' h (hk _ fun _ _ h=>h)
theorem wpList_R {ops:Array Oper} {rest:List Oper} {o:Oper} {a:Act} {w:World} {v:Value} {Q:Exit→Act→World→Prop} (hgd:o.guard=none) (h:(execOp a.eval o).run P w = .ok (.value v) w) (hk:∀ K:Act→World→Prop,(∀ a w,wpList P ops Q rest a w→K a w)→K (a.put o.dst v) w):wpList P ops Q (o :: rest) a w :=
 wpList_opv hgd v w h (hk _ fun _ _ h=>h)
theorem exec_build {o:Oper} {ev:Operand→Value} {w:World} (t:TypeId) (parts:Array (Nat × Operand)) (parts':Array (Nat × Value)) (cells:Array Value) (ho:o.op = .build t parts) (hp:(parts.map fun (i,x)=>(i,ev x))=parts') (h:P.built t parts'.toList=some cells):(execOp ev o).run P w = .ok (.value (.agg cells)) w:=by
 unfold execOp
 simp only [ho,hp,Sem.run_bind,Sem.run_pure,Result.andThen_ok,run_build w t parts' cells h]
theorem wpList_rowK {ops:Array Oper} {rest:List Oper} {o:Oper} {a:Act} {w:World} {Q:Exit→Act→World→Prop} (hgd:o.guard=none) (ty:TypeId) (x y:Operand) (ho:o.op = .store ty x y)
  (g:Nat) (cells:Array Value) (hx:a.eval x = .pointer (some ⟨g,0,none⟩)) (hy:a.eval y = .agg cells)
  (t:TypeId) (old:Array Value) (hg:w.heap[g]? = some (.cells old t (0,0))) (hi:(P.info? ty).map (·.size)=some cells.size)
  (hold:old.size=cells.size) (h1:cells.all (·.oneCell')=true)
  (h:∀ K:Act→World→Prop,(∀ a w,wpList P ops Q rest a w→K a w)→K (a.put o.dst undef) (w.setRow g cells)):wpList P ops Q (o :: rest) a w :=
 wpList_store_row hgd ty x y ho g cells hx hy t old hg hi hold h1 (h _ fun _ _ h=>h)
theorem there_of {w:World} {g:Nat} {cs:Array Value} {t:TypeId} (h:w.heap[g]? = some (.cells cs t (0,0))) (o n:Nat) (hn:o+n≤cs.size):w.there g o n:=fun j hj =>
 ⟨by rw [cell_of h,Array.getElem?_eq_getElem (by omega)];rfl,frozen_of h _⟩
def putAt (cs:Array Value) (o:Nat):List Value→Array Value
 | []=>cs
 | v :: r=>putAt (cs.setIfInBounds o v) (o+1) r
theorem setCells_at {g:Nat} {t:TypeId}:∀ (vs:List Value) (o:Nat) (cs:Array Value) (w:World),w.heap[g]? = some (.cells cs t (0,0))→(w.setCells g o vs).heap[g]? = some (.cells (putAt cs o vs) t (0,0))∧Keep [g] w (w.setCells g o vs)
 | [],_,_,w,h=>⟨h,Keep.refl _ w⟩
 | v :: r,o,cs,w,h=>by
  obtain⟨h1,h2⟩:=setCells_at r (o+1) _ _ (set_same h o v)
  exact ⟨h1,(Keep.setCell [g] w g o v (by simp)).trans h2 (by simp)⟩
theorem setRow_at {w:World} {g:Nat} {old cs:Array Value} {t:TypeId} (h:w.heap[g]? = some (.cells old t (0,0))):∃ W,w.setRow g cs=W∧W.heap[g]? = some (.cells cs t (0,0))∧Keep [g] w W:=by
 refine ⟨_,rfl,?_,⟨rfl,rfl,rfl,by simp [World.setRow],Nat.le_refl _,fun k hk hn=>?_⟩⟩
 ·simp [World.setRow,Array.getElem?_modify,h]
 simp only [World.setRow,Array.getElem?_modify]
 rw [if_neg (by intro e;subst e;simp at hn)]
end
theorem k_size:(Tryz.prog.info? 30).map (·.size)=some 9:=by
 obtain⟨i,z,hi,hz,hs,hb,hzc⟩:=real_info
 rw [hi]
 exact congrArg some hs
theorem iv_size (x:Iv K):(Tryz.prog.info? 32).map (·.size)=some (iC x).size:=by
 obtain⟨i,z,hi,hz,hs,hb,hzc⟩:=iv_info
 rw [hi]
 exact congrArg some hs
theorem iv_ones (x:Iv K):(iC x).all (·.oneCell')=true:=all_oneCell_toArray (icells_one x)
end
def bcells (b:Bd K):List Value:=kcells b.pt.1++[.bool b.beh]
def bv (b:Bd K):Value:=.agg (bcells b).toArray
theorem bv_cells (b:Bd K):bv b = .agg #[.bool (sgB b.pt.1.p.num),.string (mgS b.pt.1.p.num),.bool false,.string (dnS b.pt.1.p.den),.bool (sgB b.pt.1.r.num),.string (mgS b.pt.1.r.num),.bool false,.string (dnS b.pt.1.r.den),.bool b.pt.1.neg,.bool b.beh]:=rfl
theorem border_built (f1 f4 f7 o:Bool) (f2 f3 f5 f6:ByteArray):Tryz.prog.built 114 [(0,.agg #[.bool f1,.string f2,.bool false,.string f3,.bool f4,.string f5,.bool false,.string f6,.bool f7]),(1,.bool o)]=some #[.bool f1,.string f2,.bool false,.string f3,.bool f4,.string f5,.bool false,.string f6,.bool f7,.bool o]:=by kernel_rfl
theorem iv_built (f1 f4 f7 t1 t4 t7 o c:Bool) (f2 f3 f5 f6 t2 t3 t5 t6:ByteArray):Tryz.prog.built 32 [(0,.agg #[.bool f1,.string f2,.bool false,.string f3,.bool f4,.string f5,.bool false,.string f6,.bool f7]),(1,.agg #[.bool t1,.string t2,.bool false,.string t3,.bool t4,.string t5,.bool false,.string t6,.bool t7]),(2,.bool o),(3,.bool c)]=some #[.bool f1,.string f2,.bool false,.string f3,.bool f4,.string f5,.bool false,.string f6,.bool f7,.bool t1,.string t2,.bool false,.string t3,.bool t4,.string t5,.bool false,.string t6,.bool t7,.bool o,.bool c]:=by kernel_rfl
theorem first_c (i:Iv K) (w:World):Calls Tryz.prog 77 #[iv i] w fun e w'=>e = .returned (bv i.f)∧Keep [] w w':=by
 rw [iv_cells,bv_cells]
 generalize sgB (i.f.pt.1).p.num=f1 at *
 generalize mgS (i.f.pt.1).p.num=f2 at *
 generalize dnS (i.f.pt.1).p.den=f3 at *
 generalize sgB (i.f.pt.1).r.num=f4 at *
 generalize mgS (i.f.pt.1).r.num=f5 at *
 generalize dnS (i.f.pt.1).r.den=f6 at *
 generalize (i.f.pt.1).neg=f7 at *
 generalize sgB (i.l.pt.1).p.num=t1 at *
 generalize mgS (i.l.pt.1).p.num=t2 at *
 generalize dnS (i.l.pt.1).p.den=t3 at *
 generalize sgB (i.l.pt.1).r.num=t4 at *
 generalize mgS (i.l.pt.1).r.num=t5 at *
 generalize dnS (i.l.pt.1).r.den=t6 at *
 generalize (i.l.pt.1).neg=t7 at *
 generalize i.f.beh=o at *
 generalize (!i.l.beh)=c at *
 have hbd:=fun w=>run_build (P:=Tryz.prog) w 114 #[(0,.agg #[.bool f1,.string f2,.bool false,.string f3,.bool f4,.string f5,.bool false,.string f6,.bool f7]),(1,.bool o)] _ (border_built _ _ _ _ _ _ _ _)
 go_enter Tryz.func77,Tryz.ntmps77
 go_upto_region 1 with (fail)
 obtain⟨W,ga,gb,hW,ega,egb,Bga,Bgb,hga,hgb,hgW,HkW⟩:=al2h w (.cells #[.bool f1,.string f2,.bool false,.string f3,.bool f4,.string f5,.bool false,.string f6,.bool f7,.bool t1,.string t2,.bool false,.string t3,.bool t4,.string t5,.bool false,.string t6,.bool t7,.bool o,.bool c] 32) (.cells #[.bool false,.string ⟨#[]⟩,.bool false,.string ⟨#[]⟩,.bool false,.string ⟨#[]⟩,.bool false,.string ⟨#[]⟩,.bool false,.bool false] 114)
 rw [← hW]
 try rw [egb]
 try rw [ega]
 clear hW ega egb
 obtain⟨pga,fga,lga⟩:=jQ Bga
 obtain⟨pgb,fgb,lgb⟩:=jQ Bgb
 go_wp2_with fail
 refine bodyPost_ret (v:=.agg #[.bool f1,.string f2,.bool false,.string f3,.bool f4,.string f5,.bool false,.string f6,.bool f7,.bool o]) ?_ rfl ⟨rfl,by repeat (first|(with_reducible exact HkW.out)|(refine Keep.setPast ?_ _ _ _ (by omega))|(refine Keep.allocPast ?_ _)|(refine Keep.drewPast ?_))⟩
 rw [results_cell1 rfl];go_simp
theorem last_c (i:Iv K) (w:World):Calls Tryz.prog 78 #[iv i] w fun e w'=>e = .returned (bv i.l)∧Keep [] w w':=by
 have hn:i.l.beh = !(!i.l.beh):=by simp
 rw [iv_cells,bv_cells,hn]
 rw [← hn]
 generalize sgB (i.f.pt.1).p.num=f1 at *
 generalize mgS (i.f.pt.1).p.num=f2 at *
 generalize dnS (i.f.pt.1).p.den=f3 at *
 generalize sgB (i.f.pt.1).r.num=f4 at *
 generalize mgS (i.f.pt.1).r.num=f5 at *
 generalize dnS (i.f.pt.1).r.den=f6 at *
 generalize (i.f.pt.1).neg=f7 at *
 generalize sgB (i.l.pt.1).p.num=t1 at *
 generalize mgS (i.l.pt.1).p.num=t2 at *
 generalize dnS (i.l.pt.1).p.den=t3 at *
 generalize sgB (i.l.pt.1).r.num=t4 at *
 generalize mgS (i.l.pt.1).r.num=t5 at *
 generalize dnS (i.l.pt.1).r.den=t6 at *
 generalize (i.l.pt.1).neg=t7 at *
 clear hn
 generalize i.f.beh=o at *
 generalize i.l.beh=c at *
 have hbd:=fun w=>run_build (P:=Tryz.prog) w 114 #[(0,.agg #[.bool t1,.string t2,.bool false,.string t3,.bool t4,.string t5,.bool false,.string t6,.bool t7]),(1,.bool c)] _ (border_built _ _ _ _ _ _ _ _)
 go_enter Tryz.func78,Tryz.ntmps78
 go_upto_region 1 with (fail)
 obtain⟨W,ga,gb,hW,ega,egb,Bga,Bgb,hga,hgb,hgW,HkW⟩:=al2h w (.cells #[.bool f1,.string f2,.bool false,.string f3,.bool f4,.string f5,.bool false,.string f6,.bool f7,.bool t1,.string t2,.bool false,.string t3,.bool t4,.string t5,.bool false,.string t6,.bool t7,.bool o,.bool (!c)] 32) (.cells #[.bool false,.string ⟨#[]⟩,.bool false,.string ⟨#[]⟩,.bool false,.string ⟨#[]⟩,.bool false,.string ⟨#[]⟩,.bool false,.bool false] 114)
 rw [← hW]
 try rw [egb]
 try rw [ega]
 clear hW ega egb
 obtain⟨pga,fga,lga⟩:=jQ Bga
 obtain⟨pgb,fgb,lgb⟩:=jQ Bgb
 go_wp2_with fail
 refine bodyPost_ret (v:=.agg #[.bool t1,.string t2,.bool false,.string t3,.bool t4,.string t5,.bool false,.string t6,.bool t7,.bool c]) ?_ rfl ⟨rfl,by repeat (first|(with_reducible exact HkW.out)|(refine Keep.setPast ?_ _ _ _ (by omega))|(refine Keep.allocPast ?_ _)|(refine Keep.drewPast ?_))⟩
 rw [results_cell1 rfl];go_simp
theorem iv_built' (a b:Bd K):Tryz.prog.built 32 [(0,kv a.pt),(1,kv b.pt),(2,.bool a.beh),(3,.bool (!b.beh))]=some (iC ⟨a,b⟩):=iv_built _ _ _ _ _ _ _ _ _ _ _ _ _ _ _ _
def bC (b:Bd K):Array Value:=(bcells b).toArray
theorem bAt_pt {w:World} {g:Nat} {b:Bd K} {t:TypeId} (h:w.heap[g]? = some (.cells (bC b) t)):KAt w g 0 b.pt.1:=fun k v hk=>by
 rw [Nat.zero_add,cell_of h]
 refine (List.getElem?_toArray ..).trans ?_
 unfold bcells
 rw [List.getElem?_append_left (List.getElem?_eq_some_iff.1 hk).1]
 exact hk
theorem bAt_beh {w:World} {g:Nat} {b:Bd K} {t:TypeId} (h:w.heap[g]? = some (.cells (bC b) t)):w.cell? ⟨g,9,none⟩=some (.bool b.beh):=by
 rw [cell_of h];rfl
theorem between_c (a b:Bd K) (w:World):Calls Tryz.prog 164 #[bv a,bv b] w fun e w'=>e = .returned (iv ⟨a,b⟩)∧Keep [] w w':=by
 show Calls Tryz.prog 164 #[.agg (bC a),.agg (bC b)] w _
 have HA:=jX (fun w g=>@bAt_pt w g a 114)
 have HB:=jX (fun w g=>@bAt_pt w g b 114)
 have HA2:=jX (fun w g=>@bAt_beh w g a 114)
 have HB2:=jX (fun w g=>@bAt_beh w g b 114)
 have HI:=jX (iv_built' a b)
 have HS:=jX (iv_size ⟨a,b⟩)
 have HO:=jX (iv_ones ⟨a,b⟩)
 have HL:=jX (fun w g (h:w.heap[g]? = some (.cells (iC ⟨a,b⟩) 32))=>load_iv w g 0 ⟨a,b⟩ (ivAt_box h))
 have Hsz:Hid ((iC ⟨a,b⟩).size=20):=rfl
 generalize iv ⟨a,b⟩=R at *
 generalize bC a=A at *
 generalize bC b=B at *
 generalize iC ⟨a,b⟩=C at *
 go_enter Tryz.func164,Tryz.ntmps164
 go_upto_region 1 with (fail)
 obtain⟨W,ga,gb,gc,hW,ega,egb,egc,Bga,Bgb,Bgc,hga,hgb,hgc,hgW,HkW⟩:=al3h w (.cells A 114) (.cells B 114) (.cells #[.bool false,.string ⟨#[]⟩,.bool false,.string ⟨#[]⟩,.bool false,.string ⟨#[]⟩,.bool false,.string ⟨#[]⟩,.bool false,.bool false,.string ⟨#[]⟩,.bool false,.string ⟨#[]⟩,.bool false,.string ⟨#[]⟩,.bool false,.string ⟨#[]⟩,.bool false,.bool false,.bool false] 32)
 rw [← hW]
 try rw [egc]
 try rw [egb]
 try rw [ega]
 clear hW ega egb egc
 have La:=HA.out _ _ Bga.out
 have Lb:=HB.out _ _ Bgb.out
 have oa:=HA2.out _ _ Bga.out
 have ob:=HB2.out _ _ Bgb.out
 refine wp_region_lit ?_
 refine' wpList_R (v:=_) (by rfl) (?ha) (fun K hK=>?ka)
 case ha=>(go_simp;try rfl)
 go_simp
 refine hK _ _ ?_
 clear hK K
 refine wpList_R (v:=kv a.pt) (by rfl) (exec_load _ _ ⟨ga,0,none⟩ _ rfl rfl (load_real _ _ _ _ La)) (fun K hK=>?_)
 go_simp
 refine hK _ _ ?_
 clear hK K
 refine' wpList_R (v:=_) (by rfl) (?hb) (fun K hK=>?kb)
 case hb=>(go_simp;try rfl)
 go_simp
 refine hK _ _ ?_
 clear hK K
 refine wpList_R (v:=kv b.pt) (by rfl) (exec_load _ _ ⟨gb,0,none⟩ _ rfl rfl (load_real _ _ _ _ Lb)) (fun K hK=>?_)
 go_simp
 refine hK _ _ ?_
 clear hK K
 refine' wpList_R (v:=_) (by rfl) (?hc) (fun K hK=>?kc)
 case hc=>(go_simp;try rfl)
 go_simp
 refine hK _ _ ?_
 clear hK K
 refine' wpList_R (v:=_) (by rfl) (?hd) (fun K hK=>?kd)
 case hd=>(go_simp;try rfl)
 go_simp
 refine hK _ _ ?_
 clear hK K
 refine' wpList_R (v:=_) (by rfl) (?he) (fun K hK=>?ke)
 case he=>(go_simp;try rfl)
 go_simp
 refine hK _ _ ?_
 clear hK K
 refine' wpList_R (v:=_) (by rfl) (?hf) (fun K hK=>?kf)
 case hf=>(go_simp;try rfl)
 go_simp
 refine hK _ _ ?_
 clear hK K
 refine' wpList_R (v:=_) (by rfl) (?hg) (fun K hK=>?kg)
 case hg=>(go_simp;try rfl)
 go_simp
 refine hK _ _ ?_
 clear hK K
 refine wpList_R (v:=.agg C) (by rfl) (exec_build _ #[(0,.tmp 6),(1,.tmp 8),(2,.tmp 10),(3,.tmp 13)] #[(0,kv a.pt),(1,kv b.pt),(2,.bool a.beh),(3,.bool (!b.beh))] _ rfl (by simp only [List.map_toArray,List.map_cons,List.map_nil];rfl) HI.out) (fun K hK=>?_)
 go_simp
 refine hK _ _ ?_
 clear hK K
 refine wpList_rowK (by rfl) _ _ _ rfl gc C rfl rfl _ _ Bgc.out HS.out (by rw [Hsz.out];rfl) HO.out (fun K hK=>?_)
 obtain⟨W4,e4,b4,k4⟩:=setRow_at (cs:=C) Bgc.out
 rw [e4]
 go_simp
 refine hK _ _ ?_
 clear hK K
 have Hb4:=jX b4
 have HkZ:=jX (HkW.out.trans k4 (by simp;omega))
 clear La Lb oa ob b4 k4 e4
 go_wp2_with fail
 refine bodyPost_ret (v:=R) ?_ rfl ⟨rfl,HkZ.out⟩
 rw [results_cell1 rfl]
 exact HL.out _ _ Hb4.out
theorem krcmp_c (x y:K) (w:World):Calls Tryz.prog 81 #[kv x,kv y] w fun e w'=>e = .returned (.int .i64 (cmpQ x.1 y.1))∧Keep [] w w' :=
 RCompare_c x.1 y.1 ⟨x.2.2.1.mono (by decide),x.2.2.2.mono (by decide)⟩ ⟨y.2.2.1.mono (by decide),y.2.2.2.mono (by decide)⟩ w
theorem bcmp_c (a b:Bd K) (w:World):Calls Tryz.prog 76 #[bv a,bv b] w fun e w'=>e = .returned (.int .i64 (cmpB a b))∧Keep [] w w':=by
 have H1:=jX (krcmp_c a.pt b.pt)
 have hc:=cmp_tri a.pt b.pt
 unfold cmpB
 rw [bv_cells,bv_cells]
 rw [kv_cells,kv_cells] at H1
 generalize cmpQ a.pt.1 b.pt.1=n at *
 generalize sgB (a.pt.1).p.num=f1 at *
 generalize mgS (a.pt.1).p.num=f2 at *
 generalize dnS (a.pt.1).p.den=f3 at *
 generalize sgB (a.pt.1).r.num=f4 at *
 generalize mgS (a.pt.1).r.num=f5 at *
 generalize dnS (a.pt.1).r.den=f6 at *
 generalize (a.pt.1).neg=f7 at *
 generalize sgB (b.pt.1).p.num=t1 at *
 generalize mgS (b.pt.1).p.num=t2 at *
 generalize dnS (b.pt.1).p.den=t3 at *
 generalize sgB (b.pt.1).r.num=t4 at *
 generalize mgS (b.pt.1).r.num=t5 at *
 generalize dnS (b.pt.1).r.den=t6 at *
 generalize (b.pt.1).neg=t7 at *
 generalize a.beh=o at *
 generalize b.beh=c at *
 rcases hc with rfl|rfl|rfl
 ·rw [if_neg (by decide)]
  go_enter Tryz.func76,Tryz.ntmps76
  go_upto_region 1 with (fail)
  obtain⟨W,ga,gb,hW,ega,egb,Bga,Bgb,hga,hgb,hgW,HkW⟩:=al2h w (.cells #[.bool f1,.string f2,.bool false,.string f3,.bool f4,.string f5,.bool false,.string f6,.bool f7,.bool o] 114) (.cells #[.bool t1,.string t2,.bool false,.string t3,.bool t4,.string t5,.bool false,.string t6,.bool t7,.bool c] 114)
  rw [← hW]
  try rw [egb]
  try rw [ega]
  clear hW ega egb
  obtain⟨pga,fga,lga⟩:=jQ Bga
  obtain⟨pgb,fgb,lgb⟩:=jQ Bgb
  go_wp2_with fail
  refine (H1.out _).mono ?_
  rintro e w1 ⟨rfl,hk_w1⟩
  dsimp only
  clear pga fga lga pgb fgb lgb
  replace Bga:=jH hk_w1 Bga
  replace Bgb:=jH hk_w1 Bgb
  replace HkW:=jX (HkW.out.trans0 hk_w1)
  clear hk_w1
  obtain⟨pga,fga,lga⟩:=jQ Bga
  obtain⟨pgb,fgb,lgb⟩:=jQ Bgb
  go_wp2_with fail
  go_ret
  exact ⟨rfl,by repeat (first|(with_reducible exact HkW.out)|(refine Keep.setPast ?_ _ _ _ (by omega))|(refine Keep.allocPast ?_ _)|(refine Keep.drewPast ?_))⟩
 ·rw [if_pos rfl]
  cases o<;>cases c
  ·rw [if_pos rfl]
   go_enter Tryz.func76,Tryz.ntmps76
   go_upto_region 1 with (fail)
   obtain⟨W,ga,gb,hW,ega,egb,Bga,Bgb,hga,hgb,hgW,HkW⟩:=al2h w (.cells #[.bool f1,.string f2,.bool false,.string f3,.bool f4,.string f5,.bool false,.string f6,.bool f7,.bool false] 114) (.cells #[.bool t1,.string t2,.bool false,.string t3,.bool t4,.string t5,.bool false,.string t6,.bool t7,.bool false] 114)
   rw [← hW]
   try rw [egb]
   try rw [ega]
   clear hW ega egb
   obtain⟨pga,fga,lga⟩:=jQ Bga
   obtain⟨pgb,fgb,lgb⟩:=jQ Bgb
   go_wp2_with fail
   refine (H1.out _).mono ?_
   rintro e w1 ⟨rfl,hk_w1⟩
   dsimp only
   clear pga fga lga pgb fgb lgb
   replace Bga:=jH hk_w1 Bga
   replace Bgb:=jH hk_w1 Bgb
   replace HkW:=jX (HkW.out.trans0 hk_w1)
   clear hk_w1
   obtain⟨pga,fga,lga⟩:=jQ Bga
   obtain⟨pgb,fgb,lgb⟩:=jQ Bgb
   go_wp2_with fail
   go_ret
   exact ⟨rfl,by repeat (first|(with_reducible exact HkW.out)|(refine Keep.setPast ?_ _ _ _ (by omega))|(refine Keep.allocPast ?_ _)|(refine Keep.drewPast ?_))⟩
  ·rw [if_neg (by decide),if_pos rfl]
   go_enter Tryz.func76,Tryz.ntmps76
   go_upto_region 1 with (fail)
   obtain⟨W,ga,gb,hW,ega,egb,Bga,Bgb,hga,hgb,hgW,HkW⟩:=al2h w (.cells #[.bool f1,.string f2,.bool false,.string f3,.bool f4,.string f5,.bool false,.string f6,.bool f7,.bool false] 114) (.cells #[.bool t1,.string t2,.bool false,.string t3,.bool t4,.string t5,.bool false,.string t6,.bool t7,.bool true] 114)
   rw [← hW]
   try rw [egb]
   try rw [ega]
   clear hW ega egb
   obtain⟨pga,fga,lga⟩:=jQ Bga
   obtain⟨pgb,fgb,lgb⟩:=jQ Bgb
   go_wp2_with fail
   refine (H1.out _).mono ?_
   rintro e w1 ⟨rfl,hk_w1⟩
   dsimp only
   clear pga fga lga pgb fgb lgb
   replace Bga:=jH hk_w1 Bga
   replace Bgb:=jH hk_w1 Bgb
   replace HkW:=jX (HkW.out.trans0 hk_w1)
   clear hk_w1
   obtain⟨pga,fga,lga⟩:=jQ Bga
   obtain⟨pgb,fgb,lgb⟩:=jQ Bgb
   go_wp2_with fail
   go_ret
   exact ⟨rfl,by repeat (first|(with_reducible exact HkW.out)|(refine Keep.setPast ?_ _ _ _ (by omega))|(refine Keep.allocPast ?_ _)|(refine Keep.drewPast ?_))⟩
  ·rw [if_neg (by decide),if_neg (by decide)]
   go_enter Tryz.func76,Tryz.ntmps76
   go_upto_region 1 with (fail)
   obtain⟨W,ga,gb,hW,ega,egb,Bga,Bgb,hga,hgb,hgW,HkW⟩:=al2h w (.cells #[.bool f1,.string f2,.bool false,.string f3,.bool f4,.string f5,.bool false,.string f6,.bool f7,.bool true] 114) (.cells #[.bool t1,.string t2,.bool false,.string t3,.bool t4,.string t5,.bool false,.string t6,.bool t7,.bool false] 114)
   rw [← hW]
   try rw [egb]
   try rw [ega]
   clear hW ega egb
   obtain⟨pga,fga,lga⟩:=jQ Bga
   obtain⟨pgb,fgb,lgb⟩:=jQ Bgb
   go_wp2_with fail
   refine (H1.out _).mono ?_
   rintro e w1 ⟨rfl,hk_w1⟩
   dsimp only
   clear pga fga lga pgb fgb lgb
   replace Bga:=jH hk_w1 Bga
   replace Bgb:=jH hk_w1 Bgb
   replace HkW:=jX (HkW.out.trans0 hk_w1)
   clear hk_w1
   obtain⟨pga,fga,lga⟩:=jQ Bga
   obtain⟨pgb,fgb,lgb⟩:=jQ Bgb
   go_wp2_with fail
   go_ret
   exact ⟨rfl,by repeat (first|(with_reducible exact HkW.out)|(refine Keep.setPast ?_ _ _ _ (by omega))|(refine Keep.allocPast ?_ _)|(refine Keep.drewPast ?_))⟩
  rw [if_pos rfl]
  go_enter Tryz.func76,Tryz.ntmps76
  go_upto_region 1 with (fail)
  obtain⟨W,ga,gb,hW,ega,egb,Bga,Bgb,hga,hgb,hgW,HkW⟩:=al2h w (.cells #[.bool f1,.string f2,.bool false,.string f3,.bool f4,.string f5,.bool false,.string f6,.bool f7,.bool true] 114) (.cells #[.bool t1,.string t2,.bool false,.string t3,.bool t4,.string t5,.bool false,.string t6,.bool t7,.bool true] 114)
  rw [← hW]
  try rw [egb]
  try rw [ega]
  clear hW ega egb
  obtain⟨pga,fga,lga⟩:=jQ Bga
  obtain⟨pgb,fgb,lgb⟩:=jQ Bgb
  go_wp2_with fail
  refine (H1.out _).mono ?_
  rintro e w1 ⟨rfl,hk_w1⟩
  dsimp only
  clear pga fga lga pgb fgb lgb
  replace Bga:=jH hk_w1 Bga
  replace Bgb:=jH hk_w1 Bgb
  replace HkW:=jX (HkW.out.trans0 hk_w1)
  clear hk_w1
  obtain⟨pga,fga,lga⟩:=jQ Bga
  obtain⟨pgb,fgb,lgb⟩:=jQ Bgb
  go_wp2_with fail
  go_ret
  exact ⟨rfl,by repeat (first|(with_reducible exact HkW.out)|(refine Keep.setPast ?_ _ _ _ (by omega))|(refine Keep.allocPast ?_ _)|(refine Keep.drewPast ?_))⟩
 rw [if_neg (by decide)]
 go_enter Tryz.func76,Tryz.ntmps76
 go_upto_region 1 with (fail)
 obtain⟨W,ga,gb,hW,ega,egb,Bga,Bgb,hga,hgb,hgW,HkW⟩:=al2h w (.cells #[.bool f1,.string f2,.bool false,.string f3,.bool f4,.string f5,.bool false,.string f6,.bool f7,.bool o] 114) (.cells #[.bool t1,.string t2,.bool false,.string t3,.bool t4,.string t5,.bool false,.string t6,.bool t7,.bool c] 114)
 rw [← hW]
 try rw [egb]
 try rw [ega]
 clear hW ega egb
 obtain⟨pga,fga,lga⟩:=jQ Bga
 obtain⟨pgb,fgb,lgb⟩:=jQ Bgb
 go_wp2_with fail
 refine (H1.out _).mono ?_
 rintro e w1 ⟨rfl,hk_w1⟩
 dsimp only
 clear pga fga lga pgb fgb lgb
 replace Bga:=jH hk_w1 Bga
 replace Bgb:=jH hk_w1 Bgb
 replace HkW:=jX (HkW.out.trans0 hk_w1)
 clear hk_w1
 obtain⟨pga,fga,lga⟩:=jQ Bga
 obtain⟨pgb,fgb,lgb⟩:=jQ Bgb
 go_wp2_with fail
 go_ret
 exact ⟨rfl,by repeat (first|(with_reducible exact HkW.out)|(refine Keep.setPast ?_ _ _ _ (by omega))|(refine Keep.allocPast ?_ _)|(refine Keep.drewPast ?_))⟩
theorem wpList_cellK {P:Program} {ops:Array Oper} {rest:List Oper} {o:Oper} {a:Act} {w:World} {Q:Exit→Act→World→Prop} (hgd:o.guard=none) (ty:TypeId) (x y:Operand) (ho:o.op = .store ty x y)
  (b i:Nat) (v:Value) (hx:a.eval x = .pointer (some ⟨b,i,none⟩)) (hy:a.eval y=v) (h1:v.oneCell'=true) (ht:w.there b i 1) (hi:(P.info? ty).map (·.size)=some 1)
  (h:∀ K:Act→World→Prop,(∀ a w,wpList P ops Q rest a w→K a w)→K (a.put o.dst undef) (w.setCells b i [v])):wpList P ops Q (o :: rest) a w :=
 wpList_plain hgd fun K hK=>by
  have hs:(storeVar ty ⟨b,i,none⟩ v).run P w = .ok () (w.setCells b i [v]):=by
   have:=run_storeCells_cells (P:=P) b i [v] 0 w (fun j hj=>by simpa using (ht j (by simpa using hj)).1) (fun j hj=>by simpa using (ht j (by simpa using hj)).2) (fun u hu=>by simp at hu;subst hu;exact h1)
   have hc:v.cells = #[v]:=by cases v<;>first|rfl|cases h1
   cases hq:P.info? ty with
   | none=>simp [hq] at hi
   | some i =>
    have hs:i.size=1:=by simpa [hq] using hi
    simp only [Nat.add_zero] at this
    simp [storeVar,sizeOf,typeInfo,hq,hc,hs,this]
  unfold Oper.wp execOp
  simp only [ho,hx,hy,Instr.storeAt,Instr.sureAddr,Sem.run_bind,Sem.run_pure,Result.andThen_ok,hs]
  exact h K hK
end Go.Proofs.YtpgffjjpiafhpaaGreatDoor
