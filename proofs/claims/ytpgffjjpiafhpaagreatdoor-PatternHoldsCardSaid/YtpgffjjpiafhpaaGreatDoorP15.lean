/- Parts of a proof: Tf Tg Tj Tk Va Vd Ve Ua. -/
import Derived.Deep.MidRow
import Derived.Deep.Slices
import Derived.Lib.SmallJoins
import Derived.IntWalk
import Derived.Shelf.SlSortCmp.WholeK
import Derived.Test.YtpgffjjpiafhpaaGreatDoorP14
import Derived.Test.YtpgffjjpiafhpaaGreatDoorP13
set_option linter.unusedVariables false
set_option linter.unusedSimpArgs false
set_option maxRecDepth 100000
set_option maxHeartbeats 8000000
namespace Go.Proofs.YtpgffjjpiafhpaaGreatDoor
open Go.RowKit Tryz
section
open Classical
theorem infoIvB:(prog.info? 32).map (fun i=>(i.zero.map Value.cells,i.size,i.bytes))=some (some #[.bool false,.string ⟨#[]⟩,.bool false,.string ⟨#[]⟩,.bool false,.string ⟨#[]⟩,.bool false,.string ⟨#[]⟩,.bool false,.bool false,.string ⟨#[]⟩,.bool false,.string ⟨#[]⟩,.bool false,.string ⟨#[]⟩,.bool false,.string ⟨#[]⟩,.bool false,.bool false,.bool false],20,216):=by kernel_rfl
theorem iv_info:∃ i z,prog.info? 32=some i∧i.zero=some z∧i.size=20∧i.bytes=216∧z.cells = #[.bool false,.string ⟨#[]⟩,.bool false,.string ⟨#[]⟩,.bool false,.string ⟨#[]⟩,.bool false,.string ⟨#[]⟩,.bool false,.bool false,.string ⟨#[]⟩,.bool false,.string ⟨#[]⟩,.bool false,.string ⟨#[]⟩,.bool false,.string ⟨#[]⟩,.bool false,.bool false,.bool false]:=by
 have h:=infoIvB;cases hi:prog.info? 32 with
 | none=>rw [hi] at h;cases h
 | some i =>
  rw [hi] at h;simp only [Option.map_some,Option.some.injEq,Prod.mk.injEq] at h;obtain⟨h1,h2,h3⟩:=h;cases hz:i.zero with
  | none=>rw [hz] at h1;cases h1
  | some z =>
   rw [hz] at h1;injection h1 with h1;exact ⟨i,z,rfl,hz,h2,h3,h1⟩
theorem fill_i (f1 f4 f7 t1 t4 t7 o c:Bool) (f2 f3 f5 f6 t2 t3 t5 t6:ByteArray):Instr.fill (fun i=>some (i*20,20)) ((Array.range (1*20)).map ((#[.bool false,.string ⟨#[]⟩,.bool false,.string ⟨#[]⟩,.bool false,.string ⟨#[]⟩,.bool false,.string ⟨#[]⟩,.bool false,.bool false,.string ⟨#[]⟩,.bool false,.string ⟨#[]⟩,.bool false,.string ⟨#[]⟩,.bool false,.string ⟨#[]⟩,.bool false,.bool false,.bool false]:Array Value)[· % (#[.bool false,.string ⟨#[]⟩,.bool false,.string ⟨#[]⟩,.bool false,.string ⟨#[]⟩,.bool false,.string ⟨#[]⟩,.bool false,.bool false,.string ⟨#[]⟩,.bool false,.string ⟨#[]⟩,.bool false,.string ⟨#[]⟩,.bool false,.string ⟨#[]⟩,.bool false,.bool false,.bool false]:Array Value).size]!))
  #[(0, Value.agg #[.bool f1, .string f2, .bool false, .string f3, .bool f4, .string f5, .bool false, .string f6, .bool f7, .bool t1, .string t2, .bool false, .string t3, .bool t4, .string t5, .bool false, .string t6, .bool t7, .bool o, .bool c])].toList = some #[.bool f1, .string f2, .bool false, .string f3, .bool f4, .string f5, .bool false, .string f6, .bool f7, .bool t1, .string t2, .bool false, .string t3, .bool t4, .string t5, .bool false, .string t6, .bool t7, .bool o, .bool c] := by kernel_rfl
theorem ybk (x:Iv K) (w:World):(Instr.buildSlice 22 1 #[(0,iv x)]).run prog w = .ok (.slice (some ⟨w.heap.size,0,none⟩) 1 1) (w.alloc (.cells (iC x) 32)):=by
 obtain⟨i,z,hi,hz,hs,hb,hzc⟩:=iv_info;refine run_buildSlice (P:=prog) w 22 32 1 _ _ i z underlying22 hi hz (by rw [hs];decide) (by rw [hs];decide) ?_;rw [hs,hzc,ycZ];exact fill_i _ _ _ _ _ _ _ _ _ _ _ _ _ _ _ _
theorem build0_i (w:World):(Instr.buildSlice 22 0 #[]).run prog w = .ok (.slice (some ⟨w.heap.size,0,none⟩) 0 0) (w.alloc (.cells #[] 32)):=by
 go_simp
abbrev OI_:=OE (fun i:Iv K=>icells i) 32 20
theorem IvR.app {ty:TypeId} {w0 w:World} {v y:Value} {l m:List (Iv K)} (h:OI_ w0 w v l) (hv:v.ownBlock≠none∨0<m.length) (hy:IvR w y m) (hb:l.length+m.length≤1000000000) :
  ∃ v' w',(Builtin.append_ #[22,22] ty #[v,y]).run prog w = .ok v' w'∧OI_ w0 w' v' (l++m)∧v'.ownBlock≠none∧∀ F,(∀ g,v.ownBlock=some g→g∈F)→Keep F w w':=by
 obtain⟨i,z,hi,hz,hs,hbt,hzc⟩:=iv_info;exact OE.app (P:=prog) (bytes:=216) underlying22 hi hz hs hbt (by rw [hzc];rfl) (by decide) ybO yen h hv hy (by unfold maxLen;omega) (by omega)
theorem OI_.start (w:World):∃ u g,w.alloc (.cells #[] 32)=u∧w.heap.size=g∧u.heap.size=g+1∧OI_ w u (.slice (some ⟨g,0,none⟩) 0 0) []:=⟨_,_,rfl,rfl,by simp,OE.empty w⟩
theorem IvR.single (x:Iv K) (w:World):∃ u g,w.alloc (.cells (iC x) 32)=u∧w.heap.size=g∧u.heap.size=g+1∧Keep [] w u∧IvR u (.slice (some ⟨g,0,none⟩) 1 1) [x]:=by
 refine ⟨_,_,rfl,rfl,by simp,Keep.alloc [] w _,.inr ⟨w.heap.size,0,1,rfl,Nat.le_refl _,by simp,fun i v hv=>?_⟩⟩;exact yap (World.alloc_heap_new w (.cells (iC x) 32)) i v (by simpa using hv)
section
variable {P:Program}
theorem yet {ops:Array Oper} {rest:List Oper} {o:Oper} {a:Act} {w:World} {Q:Exit→Act→World→Prop} (hgd:o.guard=none) (v:Value) (w':World) (h:(execOp a.eval o).run P w = .ok (.value v) w') (hk:wpList P ops Q rest (a.put o.dst v) w'):wpList P ops Q (o :: rest) a w :=
 wpList_plain hgd fun K hK=>ybH v w' h (hK _ _ hk)
theorem yam {ops:Array Oper} {rest:List Oper} {o:Oper} {a:Act} {w w':World} {v:Value} {Q:Exit→Act→World→Prop} (hgd:o.guard=none) (h:(execOp a.eval o).run P w = .ok (.value v) w') (hk:∀ K:Act→World→Prop,(∀ a w,wpList P ops Q rest a w→K a w)→K (a.put o.dst v) w'):wpList P ops Q (o :: rest) a w :=
 yet hgd v w' h (hk _ fun _ _ h=>h)
theorem yab {ops:Array Oper} {rest:List Oper} {o:Oper} {a:Act} {w:World} {v:Value} {Q:Exit→Act→World→Prop} (hgd:o.guard=none) (h:(execOp a.eval o).run P w = .ok (.value v) w) (hk:∀ K:Act→World→Prop,(∀ a w,wpList P ops Q rest a w→K a w)→K (a.put o.dst v) w):wpList P ops Q (o :: rest) a w :=
 yet hgd v w h (hk _ fun _ _ h=>h)
theorem yas {o:Oper} {ev:Operand→Value} {w:World} (t:TypeId) (parts:Array (Nat × Operand)) (parts':Array (Nat × Value)) (cells:Array Value) (ho:o.op = .build t parts) (hp:(parts.map fun (i,x)=>(i,ev x))=parts') (h:P.built t parts'.toList=some cells):(execOp ev o).run P w = .ok (.value (.agg cells)) w:=by
 unfold execOp;simp only [ho,hp,Sem.run_bind,Sem.run_pure,Result.andThen_ok,run_build w t parts' cells h]
theorem yah {ops:Array Oper} {rest:List Oper} {o:Oper} {a:Act} {w:World} {Q:Exit→Act→World→Prop} (hgd:o.guard=none) (ty:TypeId) (x y:Operand) (ho:o.op = .store ty x y)
  (g:Nat) (cells:Array Value) (hx:a.eval x = .pointer (some ⟨g,0,none⟩)) (hy:a.eval y = .agg cells)
  (t:TypeId) (old:Array Value) (hg:w.heap[g]? = some (.cells old t (0,0))) (hi:(P.info? ty).map (·.size)=some cells.size)
  (hold:old.size=cells.size) (h1:cells.all (·.oneCell')=true)
  (h:∀ K:Act→World→Prop,(∀ a w,wpList P ops Q rest a w→K a w)→K (a.put o.dst undef) (w.setRow g cells)):wpList P ops Q (o :: rest) a w :=
 wpList_store_row hgd ty x y ho g cells hx hy t old hg hi hold h1 (h _ fun _ _ h=>h)
theorem yaD {ops:Array Oper} {rest:List Oper} {o:Oper} {a:Act} {w:World} {Q:Exit→Act→World→Prop} (hgd:o.guard=none) (ty:TypeId) (x y:Operand) (ho:o.op = .store ty x y)
  (b i:Nat) (cells:Array Value) (hx:a.eval x = .pointer (some ⟨b,i,none⟩)) (hy:a.eval y = .agg cells) (ht:w.there b i cells.size) (hi:(P.info? ty).map (·.size)=some cells.size) (h1:cells.all (·.oneCell')=true)
  (h:∀ K:Act→World→Prop,(∀ a w,wpList P ops Q rest a w→K a w)→K (a.put o.dst undef) (w.setCells b i cells.toList)):wpList P ops Q (o :: rest) a w :=
 wpList_store_mid hgd ty x y ho b i cells hx hy ht hi h1 (h _ fun _ _ h=>h)
theorem yaK {w:World} {g:Nat} {cs:Array Value} {t:TypeId} (h:w.heap[g]? = some (.cells cs t (0,0))) (o n:Nat) (hn:o+n≤cs.size):w.there g o n:=fun j hj =>
 ⟨by rw [yac h,Array.getElem?_eq_getElem (by omega)];rfl,yak h _⟩
def yba (cs:Array Value) (o:Nat):List Value→Array Value
 | []=>cs
 | v :: r=>yba (cs.setIfInBounds o v) (o+1) r
theorem yat {g:Nat} {t:TypeId}:∀ (vs:List Value) (o:Nat) (cs:Array Value) (w:World),w.heap[g]? = some (.cells cs t (0,0))→(w.setCells g o vs).heap[g]? = some (.cells (yba cs o vs) t (0,0))∧Keep [g] w (w.setCells g o vs)
 | [],_,_,w,h=>⟨h,Keep.refl _ w⟩
 | v :: r,o,cs,w,h=>by
  obtain⟨h1,h2⟩:=yat r (o+1) _ _ (set_same h o v);exact ⟨h1,(Keep.setCell [g] w g o v (by simp)).trans h2 (by simp)⟩
theorem yai {w:World} {g:Nat} {old cs:Array Value} {t:TypeId} (h:w.heap[g]? = some (.cells old t (0,0))):∃ W,w.setRow g cs=W∧W.heap[g]? = some (.cells cs t (0,0))∧Keep [g] w W:=by
 refine ⟨_,rfl,?_,⟨rfl,rfl,rfl,by simp [World.setRow],Nat.le_refl _,fun k hk hn=>?_⟩⟩
 ·simp [World.setRow,Array.getElem?_modify,h]
 simp only [World.setRow,Array.getElem?_modify];rw [if_neg (by intro e;subst e;simp at hn)]
end
theorem k_size:(prog.info? 30).map (·.size)=some 9:=by
 obtain⟨i,z,hi,hz,hs,hb,hzc⟩:=real_info;rw [hi];exact congrArg some hs
theorem ybi (x:Iv K):(prog.info? 32).map (·.size)=some (iC x).size:=by
 obtain⟨i,z,hi,hz,hs,hb,hzc⟩:=iv_info;rw [hi];exact congrArg some hs
theorem ybg (x:Iv K):(iC x).all (·.oneCell')=true:=all_oneCell_toArray (yen x)
end
def bcells (b:Bd K):List Value:=kcells b.pt.1++[.bool b.beh]
def bv (b:Bd K):Value:=.agg (bcells b).toArray
theorem ydE (b:Bd K):bv b = .agg #[.bool (sgB b.pt.1.p.num),.string (mgS b.pt.1.p.num),.bool false,.string (dnS b.pt.1.p.den),.bool (sgB b.pt.1.r.num),.string (mgS b.pt.1.r.num),.bool false,.string (dnS b.pt.1.r.den),.bool b.pt.1.neg,.bool b.beh]:=rfl
theorem ydo (f1 f4 f7 o:Bool) (f2 f3 f5 f6:ByteArray):prog.built 114 [(0,.agg #[.bool f1,.string f2,.bool false,.string f3,.bool f4,.string f5,.bool false,.string f6,.bool f7]),(1,.bool o)]=some #[.bool f1,.string f2,.bool false,.string f3,.bool f4,.string f5,.bool false,.string f6,.bool f7,.bool o]:=by kernel_rfl
theorem iv_built (f1 f4 f7 t1 t4 t7 o c:Bool) (f2 f3 f5 f6 t2 t3 t5 t6:ByteArray):prog.built 32 [(0,.agg #[.bool f1,.string f2,.bool false,.string f3,.bool f4,.string f5,.bool false,.string f6,.bool f7]),(1,.agg #[.bool t1,.string t2,.bool false,.string t3,.bool t4,.string t5,.bool false,.string t6,.bool t7]),(2,.bool o),(3,.bool c)]=some #[.bool f1,.string f2,.bool false,.string f3,.bool f4,.string f5,.bool false,.string f6,.bool f7,.bool t1,.string t2,.bool false,.string t3,.bool t4,.string t5,.bool false,.string t6,.bool t7,.bool o,.bool c]:=by kernel_rfl
theorem yeN (i:Iv K) (w:World):Calls prog 77 #[iv i] w fun e w'=>e = .returned (bv i.f)∧Keep [] w w':=by
 rw [ycZ,ydE];generalize sgB (i.f.pt.1).p.num=f1 at *;generalize mgS (i.f.pt.1).p.num=f2 at *;generalize dnS (i.f.pt.1).p.den=f3 at *;generalize sgB (i.f.pt.1).r.num=f4 at *;generalize mgS (i.f.pt.1).r.num=f5 at *;generalize dnS (i.f.pt.1).r.den=f6 at *;generalize (i.f.pt.1).neg=f7 at *;generalize sgB (i.l.pt.1).p.num=t1 at *;generalize mgS (i.l.pt.1).p.num=t2 at *;generalize dnS (i.l.pt.1).p.den=t3 at *;generalize sgB (i.l.pt.1).r.num=t4 at *;generalize mgS (i.l.pt.1).r.num=t5 at *;generalize dnS (i.l.pt.1).r.den=t6 at *;generalize (i.l.pt.1).neg=t7 at *;generalize i.f.beh=o at *;generalize (!i.l.beh)=c at *;have hbd:=fun w=>run_build (P:=prog) w 114 #[(0,.agg #[.bool f1,.string f2,.bool false,.string f3,.bool f4,.string f5,.bool false,.string f6,.bool f7]),(1,.bool o)] _ (ydo _ _ _ _ _ _ _ _);go_enter func77,ntmps77
 go_upto_region 1 with (fail)
 obtain⟨W,ga,gb,hW,ega,egb,Bga,Bgb,hga,hgb,hgW,HkW⟩:=al2h w (.cells #[.bool f1,.string f2,.bool false,.string f3,.bool f4,.string f5,.bool false,.string f6,.bool f7,.bool t1,.string t2,.bool false,.string t3,.bool t4,.string t5,.bool false,.string t6,.bool t7,.bool o,.bool c] 32) (.cells #[.bool false,.string ⟨#[]⟩,.bool false,.string ⟨#[]⟩,.bool false,.string ⟨#[]⟩,.bool false,.string ⟨#[]⟩,.bool false,.bool false] 114);rw [← hW];try rw [egb]
 try rw [ega]
 clear hW ega egb;obtain⟨pga,fga,lga⟩:=jQ Bga;obtain⟨pgb,fgb,lgb⟩:=jQ Bgb;go_wp2_with fail;refine bodyPost_ret (v:=.agg #[.bool f1,.string f2,.bool false,.string f3,.bool f4,.string f5,.bool false,.string f6,.bool f7,.bool o]) ?_ rfl ⟨rfl,by repeat (first|(with_reducible exact HkW.out)|(refine Keep.sP ?_ _ _ _ (by omega))|(refine Keep.aP ?_ _)|(refine Keep.dP ?_))⟩;rw [yaj rfl];go_simp
theorem ygD (i:Iv K) (w:World):Calls prog 78 #[iv i] w fun e w'=>e = .returned (bv i.l)∧Keep [] w w':=by
 have hn:i.l.beh = !(!i.l.beh):=by simp
 rw [ycZ,ydE,hn];rw [← hn];generalize sgB (i.f.pt.1).p.num=f1 at *;generalize mgS (i.f.pt.1).p.num=f2 at *;generalize dnS (i.f.pt.1).p.den=f3 at *;generalize sgB (i.f.pt.1).r.num=f4 at *;generalize mgS (i.f.pt.1).r.num=f5 at *;generalize dnS (i.f.pt.1).r.den=f6 at *;generalize (i.f.pt.1).neg=f7 at *;generalize sgB (i.l.pt.1).p.num=t1 at *;generalize mgS (i.l.pt.1).p.num=t2 at *;generalize dnS (i.l.pt.1).p.den=t3 at *;generalize sgB (i.l.pt.1).r.num=t4 at *;generalize mgS (i.l.pt.1).r.num=t5 at *;generalize dnS (i.l.pt.1).r.den=t6 at *;generalize (i.l.pt.1).neg=t7 at *;clear hn;generalize i.f.beh=o at *;generalize i.l.beh=c at *;have hbd:=fun w=>run_build (P:=prog) w 114 #[(0,.agg #[.bool t1,.string t2,.bool false,.string t3,.bool t4,.string t5,.bool false,.string t6,.bool t7]),(1,.bool c)] _ (ydo _ _ _ _ _ _ _ _);go_enter func78,ntmps78
 go_upto_region 1 with (fail)
 obtain⟨W,ga,gb,hW,ega,egb,Bga,Bgb,hga,hgb,hgW,HkW⟩:=al2h w (.cells #[.bool f1,.string f2,.bool false,.string f3,.bool f4,.string f5,.bool false,.string f6,.bool f7,.bool t1,.string t2,.bool false,.string t3,.bool t4,.string t5,.bool false,.string t6,.bool t7,.bool o,.bool (!c)] 32) (.cells #[.bool false,.string ⟨#[]⟩,.bool false,.string ⟨#[]⟩,.bool false,.string ⟨#[]⟩,.bool false,.string ⟨#[]⟩,.bool false,.bool false] 114);rw [← hW];try rw [egb]
 try rw [ega]
 clear hW ega egb;obtain⟨pga,fga,lga⟩:=jQ Bga;obtain⟨pgb,fgb,lgb⟩:=jQ Bgb;go_wp2_with fail;refine bodyPost_ret (v:=.agg #[.bool t1,.string t2,.bool false,.string t3,.bool t4,.string t5,.bool false,.string t6,.bool t7,.bool c]) ?_ rfl ⟨rfl,by repeat (first|(with_reducible exact HkW.out)|(refine Keep.sP ?_ _ _ _ (by omega))|(refine Keep.aP ?_ _)|(refine Keep.dP ?_))⟩;rw [yaj rfl];go_simp
theorem iv_built' (a b:Bd K):prog.built 32 [(0,kv a.pt),(1,kv b.pt),(2,.bool a.beh),(3,.bool (!b.beh))]=some (iC ⟨a,b⟩):=iv_built _ _ _ _ _ _ _ _ _ _ _ _ _ _ _ _
def bC (b:Bd K):Array Value:=(bcells b).toArray
theorem bAt_pt {w:World} {g:Nat} {b:Bd K} {t:TypeId} (h:w.heap[g]? = some (.cells (bC b) t)):KAt w g 0 b.pt.1:=fun k v hk=>by
 rw [Nat.zero_add,yac h];refine (List.getElem?_toArray ..).trans ?_;unfold bcells;rw [List.getElem?_append_left (List.getElem?_eq_some_iff.1 hk).1];exact hk
theorem bAt_beh {w:World} {g:Nat} {b:Bd K} {t:TypeId} (h:w.heap[g]? = some (.cells (bC b) t)):w.cell? ⟨g,9,none⟩=some (.bool b.beh):=by
 rw [yac h];rfl
theorem between_c (a b:Bd K) (w:World):Calls prog 164 #[bv a,bv b] w fun e w'=>e = .returned (iv ⟨a,b⟩)∧Keep [] w w':=by
 show Calls prog 164 #[.agg (bC a),.agg (bC b)] w _
 have HA:=jX (fun w g=>@bAt_pt w g a 114);have HB:=jX (fun w g=>@bAt_pt w g b 114);have HA2:=jX (fun w g=>@bAt_beh w g a 114);have HB2:=jX (fun w g=>@bAt_beh w g b 114);have HI:=jX (iv_built' a b);have HS:=jX (ybi ⟨a,b⟩);have HO:=jX (ybg ⟨a,b⟩);have HL:=jX (fun w g (h:w.heap[g]? = some (.cells (iC ⟨a,b⟩) 32))=>yaE w g 0 ⟨a,b⟩ (yap h));have Hsz:Hid ((iC ⟨a,b⟩).size=20):=rfl;generalize iv ⟨a,b⟩=R at *;generalize bC a=A at *;generalize bC b=B at *;generalize iC ⟨a,b⟩=C at *;go_enter func164,ntmps164
 go_upto_region 1 with (fail)
 obtain⟨W,ga,gb,gc,hW,ega,egb,egc,Bga,Bgb,Bgc,hga,hgb,hgc,hgW,HkW⟩:=al3h w (.cells A 114) (.cells B 114) (.cells #[.bool false,.string ⟨#[]⟩,.bool false,.string ⟨#[]⟩,.bool false,.string ⟨#[]⟩,.bool false,.string ⟨#[]⟩,.bool false,.bool false,.string ⟨#[]⟩,.bool false,.string ⟨#[]⟩,.bool false,.string ⟨#[]⟩,.bool false,.string ⟨#[]⟩,.bool false,.bool false,.bool false] 32);rw [← hW];try rw [egc]
 try rw [egb]
 try rw [ega]
 clear hW ega egb egc;have La:=HA.out _ _ Bga.out;have Lb:=HB.out _ _ Bgb.out;have oa:=HA2.out _ _ Bga.out;have ob:=HB2.out _ _ Bgb.out;refine wp_region_lit ?_;refine' yab (v:=_) (by rfl) (?ha) (fun K hK=>?ka)
 case ha=>(go_simp;try rfl)
 go_simp;refine hK _ _ ?_;clear hK K;refine yab (v:=kv a.pt) (by rfl) (yad _ _ ⟨ga,0,none⟩ _ rfl rfl (yaL _ _ _ _ La)) (fun K hK=>?_);go_simp;refine hK _ _ ?_;clear hK K;refine' yab (v:=_) (by rfl) (?hb) (fun K hK=>?kb)
 case hb=>(go_simp;try rfl)
 go_simp;refine hK _ _ ?_;clear hK K;refine yab (v:=kv b.pt) (by rfl) (yad _ _ ⟨gb,0,none⟩ _ rfl rfl (yaL _ _ _ _ Lb)) (fun K hK=>?_);go_simp;refine hK _ _ ?_;clear hK K;refine' yab (v:=_) (by rfl) (?hc) (fun K hK=>?kc)
 case hc=>(go_simp;try rfl)
 go_simp;refine hK _ _ ?_;clear hK K;refine' yab (v:=_) (by rfl) (?hd) (fun K hK=>?kd)
 case hd=>(go_simp;try rfl)
 go_simp;refine hK _ _ ?_;clear hK K;refine' yab (v:=_) (by rfl) (?he) (fun K hK=>?ke)
 case he=>(go_simp;try rfl)
 go_simp;refine hK _ _ ?_;clear hK K;refine' yab (v:=_) (by rfl) (?hf) (fun K hK=>?kf)
 case hf=>(go_simp;try rfl)
 go_simp;refine hK _ _ ?_;clear hK K;refine' yab (v:=_) (by rfl) (?hg) (fun K hK=>?kg)
 case hg=>(go_simp;try rfl)
 go_simp;refine hK _ _ ?_;clear hK K;refine yab (v:=.agg C) (by rfl) (yas _ #[(0,.tmp 6),(1,.tmp 8),(2,.tmp 10),(3,.tmp 13)] #[(0,kv a.pt),(1,kv b.pt),(2,.bool a.beh),(3,.bool (!b.beh))] _ rfl (by simp only [List.map_toArray,List.map_cons,List.map_nil];rfl) HI.out) (fun K hK=>?_);go_simp;refine hK _ _ ?_;clear hK K;refine yah (by rfl) _ _ _ rfl gc C rfl rfl _ _ Bgc.out HS.out (by rw [Hsz.out];rfl) HO.out (fun K hK=>?_);obtain⟨W4,e4,b4,k4⟩:=yai (cs:=C) Bgc.out;rw [e4];go_simp;refine hK _ _ ?_;clear hK K;have Hb4:=jX b4;have HkZ:=jX (HkW.out.trans k4 (by simp;omega));clear La Lb oa ob b4 k4 e4;go_wp2_with fail;refine bodyPost_ret (v:=R) ?_ rfl ⟨rfl,HkZ.out⟩;rw [yaj rfl];exact HL.out _ _ Hb4.out
structure SpanA where
 a:InsA
 b:InsA
 oa:Bool
 ob:Bool
def SpanA.v (s:SpanA):Value:=.agg #[.int .u8 s.a.P,.int .u8 s.a.D,.int .u8 s.a.R,.int .u8 s.a.E,.bool s.a.neg,.int .u8 s.b.P,.int .u8 s.b.D,.int .u8 s.b.R,.int .u8 s.b.E,.bool s.b.neg,.bool s.oa,.bool s.ob]
theorem yei (ev:Operand→Value) (w:World) (o:Oper) (ho:o.op = .alloc 32):(execOp ev o).run prog w = .ok (.value (.pointer (some ⟨w.heap.size,0,none⟩))) (w.alloc (.cells #[.bool false,.string ⟨#[]⟩,.bool false,.string ⟨#[]⟩,.bool false,.string ⟨#[]⟩,.bool false,.string ⟨#[]⟩,.bool false,.bool false,.string ⟨#[]⟩,.bool false,.string ⟨#[]⟩,.bool false,.string ⟨#[]⟩,.bool false,.string ⟨#[]⟩,.bool false,.bool false,.bool false] 32)):=by
 unfold execOp;simp only [ho];go_simp
def yeY (s:SpanA):List Value:=[.int .u8 s.a.P,.int .u8 s.a.D,.int .u8 s.a.R,.int .u8 s.a.E,.bool s.a.neg,.int .u8 s.b.P,.int .u8 s.b.D,.int .u8 s.b.R,.int .u8 s.b.E,.bool s.b.neg,.bool s.oa,.bool s.ob]
theorem ygs (s:SpanA):(yeY s).length=12:=rfl
abbrev SpR:=RowE (fun s:SpanA=>yeY s)
theorem SpR.elem {w:World} {a:Option Addr} {n c:Nat} {l:List SpanA} (h:SpR w (.slice a n c) l) (i:Nat) (hi:i<l.length):∃ g o,a=some ⟨g,o,none⟩∧g<w.heap.size∧∀ j v,(yeY l[i])[j]? = some v→w.cell? ⟨g,o+i*12+j,none⟩=some v:=RowE.elem ygs h i hi
def SpQ (w:World) (v:Value) (l:List SpanA):Prop:=∃ (a:Option Addr) (c:Nat),v = .slice a l.length c∧(l=[]∨SpR w v l)
theorem SpQ.elem {w:World} {a:Option Addr} {n c:Nat} {l:List SpanA} (h:SpQ w (.slice a n c) l) (i:Nat) (hi:i<l.length):∃ g o,a=some ⟨g,o,none⟩∧g<w.heap.size∧∀ j v,(yeY l[i])[j]? = some v→w.cell? ⟨g,o+i*12+j,none⟩=some v:=by
 obtain⟨_,_,_,h|h⟩:=h
 ·subst h;simp at hi
 exact SpR.elem h i hi
theorem SpQ.later {w w':World} {v:Value} {l:List SpanA} (h:SpQ w v l) (hk:Keep [] w w'):SpQ w' v l:=by
 obtain⟨a,c,h1,h2⟩:=h;exact ⟨a,c,h1,h2.imp id (fun h=>h.later hk)⟩
section
open Go.ChangeShapes Go.WideShapes Go.ChangeAt
theorem ygQ {α β:Type} (f:α→Option β):∀ (l:List α) (cs:List β),l.mapM f=some cs→cs.length=l.length∧∀ (i:Nat) (x:α),l[i]? = some x→f x=cs[i]?
 | [],cs,h=>by
  simp at h;subst h;exact ⟨rfl,fun i x hx=>by simp at hx⟩
 | x :: l,cs,h=>by
  rw [List.mapM_cons] at h;simp only [Option.bind_eq_bind,Option.pure_def,Option.bind_eq_some_iff] at h;obtain⟨y,hy,ys,hys,h⟩:=h;simp at h;subst h;obtain⟨h1,h2⟩:=ygQ f l ys hys;refine ⟨by simp [h1],fun i z hz=>?_⟩;cases i with
  | zero=>simp at hz;subst hz;simpa using hy
  | succ i=>simp at hz ⊢;exact h2 i z hz
theorem cells?_get {w:World} {base n:Nat} {a:Addr} {cs:List Value} (h:w.cells? base a n=some cs):cs.length=n∧∀ i,i<n→w.cell? (a.add i)=cs[i]?:=by
 unfold World.cells? at h;split at h
 ·obtain⟨h1,h2⟩:=ygQ _ _ _ h
  exact ⟨by simpa using h1,fun i hi=>h2 i i (by rw [List.getElem?_range hi])⟩
 cases h
theorem ycO {w:World} {a:Addr} {v:Value} (h:w.cell? a=some v):∃ b off,a=⟨b,off,none⟩:=by
 obtain⟨b,off,sp⟩:=a;cases sp with
 | none=>exact ⟨b,off,rfl⟩
 | some x=>simp [World.cell?] at h;split at h<;>simp at h
theorem cells_u8:prog.cellsOf 5=1:=by kernel_rfl
section
variable {H:Type} {enc:TypeId × Value→H} {w:World} {base:Nat} {held:Bool} {fuel:Nat}
end
end
section
open Go.ChangeShapes Go.WideShapes Go.ChangeAt
structure FrA where
 num:Int
 den:Int
 up:Nat
 down:Nat
 hn : -9223372036854775808≤num∧num≤9223372036854775807
 hd : -9223372036854775808≤den∧den≤9223372036854775807
 hu:up≤255
 hw:down≤255
def FrA.v (a:FrA):Value:=.agg #[.int .i64 a.num,.int .i64 a.den,.int .u8 a.up,.int .u8 a.down]
end
def FrA.d (a:FrA):Int:=if a.den=0 then 1 else a.den
section
open Go.RowKit Go.Sort Go.Shelf
section
variable {P:Program} {ρ:Ren} {α:Type} [Inhabited α] {enc:α→List Value} {k:Nat}
theorem ygj (hk:∀ x,(enc x).length=k) {w:World} {g o n c:Nat} {l:List α} (h:RowE enc w (.slice (some ⟨g,o,none⟩) n c) l) (hf:∀ j,w.frozen? ⟨g,o+j,none⟩=false):HoldsK enc k w g o l.toArray:=by
 intro t ht;rw [size_flatK] at ht;have ht':t<l.length*k:=by simpa using ht
 refine ⟨?_,hf t⟩;have hk0:0<k:=Nat.pos_of_ne_zero (by rintro rfl;simp at ht');have hi:t / k<l.length:=Nat.div_lt_of_lt_mul (by rw [Nat.mul_comm];exact ht');have hj:t % k<k:=Nat.mod_lt _ hk0;rcases h with ⟨h,_⟩|⟨g',o',c',e,hc,hg,hx⟩
 ·cases h
 injection e with e1 e2 e3;injection e1 with e1;injection e1 with e1 e4;subst e1 e4;rw [get_flatK _ _ _ _ ht];refine hx t _ ?_;have h1:=yeH enc hk l (t / k) (t % k) hi hj;rw [Nat.div_add_mod' t k] at h1;have hj2:t % k<(enc l[t / k]).length:=by rw [hk];exact hj
 rw [h1,List.getElem?_eq_getElem hj2];have e2:l.toArray[t / k]! = l[t / k]:=by rw [getElem!_pos l.toArray (t / k) (by simpa using hi)];simp
 rw [e2,getElem!_pos (enc l[t / k]) (t % k) hj2];rfl
theorem ygf (hk:∀ x,(enc x).length=k) {w:World} {g o c:Nat} {d:Array α} (h:HoldsK enc k w g o d) (hg:g<w.heap.size) (hc:d.size≤c):RowE enc w (.slice (some ⟨g,o,none⟩) d.size c) d.toList:=by
 refine .inr ⟨g,o,c,by rw [Array.length_toList],by rw [Array.length_toList];exact hc,hg,fun t v hv=>?_⟩
 have ht:t<d.size*k:=by
  have:=(List.getElem?_eq_some_iff.1 hv).1;rw [ydA enc hk,Array.length_toList] at this;exact this
 have hk0:0<k:=Nat.pos_of_ne_zero (by rintro rfl;simp at ht);have hi:t / k<d.size:=Nat.div_lt_of_lt_mul (by rw [Nat.mul_comm];exact ht);have hj:t % k<k:=Nat.mod_lt _ hk0;have h1:=yeH enc hk d.toList (t / k) (t % k) (by simpa using hi) hj;rw [Nat.div_add_mod' t k,hv] at h1;have h2:=(h.cell hi hj).1;rw [Nat.add_assoc,Nat.div_add_mod' t k] at h2;rw [h2];have hj2:t % k<(enc d[t / k]).length:=by rw [hk];exact hj
 have e2:d[t / k]! = d[t / k]:=getElem!_pos d (t / k) hi;rw [e2,getElem!_pos (enc d[t / k]) (t % k) hj2];rw [Array.getElem_toList,List.getElem?_eq_getElem hj2] at h1;exact h1.symm
theorem yct (w:World) (g o n:Nat) (d:Array α) (os:Array Obj):Keep [g] w (sortWorldK enc k w g o n d os):=by
 refine ⟨rfl,rfl,rfl,?_,?_,?_⟩
 ·unfold sortWorldK grow putRowK
  simp [Go.Sort.ahead]
 ·unfold sortWorldK grow putRowK
  simp [Go.Sort.ahead]
 intro j hj hn;have hne:¬ g=j:=fun e=>hn (by simp [e]);unfold sortWorldK grow putRowK putRow mapBlock Go.Sort.ahead;dsimp only;rw [Array.getElem?_append_left (by simpa using hj),Array.getElem?_modify,if_neg hne]
theorem sort_row (L:SlLaysF0.n6 P ρ) (hk0:0<k) (aE:∀ w,(isAgg (ρ.t 24)).run P w = .ok true w) (zE:∀ w,(Go.sizeOf (ρ.t 24)).run P w = .ok k w) (hk:∀ x,(enc x).length=k) (h1:∀ x,∀ v∈enc x,v.oneCell'=true) (cf:α→α→Int) (hO:SWO (ltOf cf)) (g:Nat)
  (eg:∀ args w,(callFunc g args).run P w = .ok (.enter g args) w) (hcmp:∀ x y w,Calls P g #[.agg (enc x).toArray,.agg (enc y).toArray] w fun e w'=>e = .returned (.int .i64 (cf x y))∧Keep [] w w')
  {w:World} {b o n c:Nat} {l:List α} (h:RowE enc w (.slice (some ⟨b,o,none⟩) n c) l) (hf:∀ j,w.frozen? ⟨b,o+j,none⟩=false) (hsz:l.length<4611686018427387904) :
  Calls P (ρ.f 6) #[.slice (some ⟨b,o,none⟩) n c,.func (.func g) #[] #[]] w fun e w' =>
   e = .returned (.tuple #[])∧∃ l',l'.Perm l∧l'.Pairwise (fun x y=>ltOf cf y x=false)∧RowE enc w' (.slice (some ⟨b,o,none⟩) n c) l'∧Keep [b] w w':=by
 have hH:=ygj hk h hf
 have hn:n=l.length∧n≤c∧b<w.heap.size:=by
  rcases h with ⟨h,_⟩|⟨g',o',c',e,hc,hg,hx⟩
  ·cases h
  injection e with e1 e2 e3;injection e1 with e1;injection e1 with e1 e4;subst e1 e2 e3;exact ⟨rfl,hc,hg⟩
 obtain⟨rfl,hnc,hb⟩:=hn
 have hcl:CmpLays P g #[] enc k cf b o l.toArray.size w:=fun m os dk _ x y=>by
  have:=hcmp x y (sortWorldK enc k w b o m dk os);exact this.mono fun e w' ⟨he,hkk⟩=>⟨he,hkk.regrown⟩
 have:=AnyQ.slices_SortFunc L k aE zE enc hk h1 cf hO g #[] b o c l.toArray w eg hcl hH hb (by simpa using hsz);rw [List.size_toArray] at this;refine this.mono ?_;rintro e w' ⟨he,d',m,os,⟨hp1,_,hp2⟩,hs,rfl⟩;have hp1:d'.size=l.length:=by simpa using hp1
 have hp:d'.toList.Perm l:=by
  have e1:d'.extract 0 l.length=d':=by rw [← hp1,Array.extract_size]
  have e2:l.toArray.extract 0 l.length=l.toArray:=by rw [← List.size_toArray,Array.extract_size]
  rw [e1,e2] at hp2
  simpa using hp2
 refine ⟨he,d'.toList,hp,?_,?_,yct _ _ _ _ _ _⟩
 ·rw [List.pairwise_iff_getElem]
  intro i j hi hj hij;simp only [Array.length_toList] at hi hj;have:=hs i j (Nat.zero_le _) hij (by rw [← hp1];exact hj);rw [getElem!_pos d' j hj,getElem!_pos d' i hi] at this
  simpa using this
 have hh:HoldsK enc k (sortWorldK enc k w b o m d' os) b o d':=by
  unfold sortWorldK;exact holdsK_grow enc k _ os b o d' (by unfold putRowK;simpa [Go.Sort.ahead] using hb) (holdsK_putRowK enc k _ b o l.toArray d' (holdsK_ahead enc k w m b o _ hH) (by simpa using hp1))
 have:=ygf hk (c:=c) hh (Nat.lt_of_lt_of_le hb (yct (enc:=enc) (k:=k) w b o m d' os).size) (by omega);rw [hp1] at this;exact this
end
end
end Go.Proofs.YtpgffjjpiafhpaaGreatDoor
