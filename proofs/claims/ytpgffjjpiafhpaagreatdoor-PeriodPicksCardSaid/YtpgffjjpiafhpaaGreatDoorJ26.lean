/- Parts of a proof: Tl Ub Layg Uc. -/
import Derived.Shelf.SlSortCmp.WholeK
import Derived.Shelf.SlSortCmp.NoneTotal
import Derived.Test.YtpgffjjpiafhpaaGreatDoorJ23
import Derived.Test.YtpgffjjpiafhpaaGreatDoorJ25
import Derived.Test.YtpgffjjpiafhpaaGreatDoorProg
set_option linter.unusedVariables false
set_option linter.unusedSimpArgs false
set_option maxRecDepth 100000
set_option maxHeartbeats 8000000
namespace Go.Proofs.YtpgffjjpiafhpaaGreatDoor
open Go.RowKit Tryz
theorem yej {P:Program} {ops:Array Oper} {rest:List Oper} {o:Oper} {a:Act} {w:World} {Q:Exit→Act→World→Prop} (hgd:o.guard=none) (ty:TypeId) (x y:Operand) (ho:o.op = .store ty x y)
  (b i:Nat) (v:Value) (hx:a.eval x = .pointer (some ⟨b,i,none⟩)) (hy:a.eval y=v) (h1:v.oneCell'=true) (ht:w.there b i 1) (hi:(P.info? ty).map (·.size)=some 1)
  (h:∀ K:Act→World→Prop,(∀ a w,wpList P ops Q rest a w→K a w)→K (a.put o.dst undef) (w.setCells b i [v])):wpList P ops Q (o :: rest) a w :=
 wpList_plain hgd fun K hK=>by
  have hs:(storeVar ty ⟨b,i,none⟩ v).run P w = .ok () (w.setCells b i [v]):=by
   have:=run_storeCells_cells (P:=P) b i [v] 0 w (fun j hj=>by simpa using (ht j (by simpa using hj)).1) (fun j hj=>by simpa using (ht j (by simpa using hj)).2) (fun u hu=>by simp at hu;subst hu;exact h1);have hc:v.cells = #[v]:=by cases v<;>first|rfl|cases h1
   cases hq:P.info? ty with
   | none=>simp [hq] at hi
   | some i =>
    have hs:i.size=1:=by simpa [hq] using hi
    simp only [Nat.add_zero] at this;simp [storeVar,sizeOf,typeInfo,hq,hc,hs,this]
  unfold Oper.wp execOp;simp only [ho,hx,hy,Instr.storeAt,Instr.sureAddr,Sem.run_bind,Sem.run_pure,Result.andThen_ok,hs];exact h K hK
def evcells (e:Ev K):List Value:=bcells e.at_++[.int .i64 e.x,.int .i64 e.y]
theorem ydu (e:Ev K):(evcells e).length=12:=rfl
theorem yfB (b:Bd K):∀ v∈bcells b,v.oneCell'=true:=by
 intro v hv;unfold bcells at hv;rcases List.mem_append.1 hv with hv|hv
 ·exact ybV _ v hv
 simp only [List.mem_cons,List.not_mem_nil,or_false] at hv;subst hv;rfl
theorem ydp (e:Ev K):∀ v∈evcells e,v.oneCell'=true:=by
 intro v hv;unfold evcells at hv;rcases List.mem_append.1 hv with hv|hv
 ·exact yfB _ v hv
 simp only [List.mem_cons,List.not_mem_nil,or_false] at hv;rcases hv with rfl|rfl<;>rfl
def eC (e:Ev K):Array Value:=(evcells e).toArray
def evv (e:Ev K):Value:=.agg (eC e)
theorem infoEv:∃ ie,prog.info? 183=some ie∧ie.size=12:=by
 have h:(prog.info? 183).map (·.size)=some 12:=by kernel_rfl
 cases hi:prog.info? 183 with
 | none=>rw [hi] at h;cases h
 | some ie=>rw [hi] at h;exact ⟨ie,rfl,by simpa using h⟩
theorem infoBd:∃ ie,prog.info? 114=some ie∧ie.size=10:=by
 have h:(prog.info? 114).map (·.size)=some 10:=by kernel_rfl
 cases hi:prog.info? 114 with
 | none=>rw [hi] at h;cases h
 | some ie=>rw [hi] at h;exact ⟨ie,rfl,by simpa using h⟩
theorem ycS (w:World) (b o:Nat) (x:Bd K) (hc:∀ k v,(bcells x)[k]? = some v→w.cell? ⟨b,o+k,none⟩=some v):(loadVar 114 ⟨b,o,none⟩).run prog w = .ok (bv x) w:=by
 obtain⟨ie,hie,hs⟩:=infoBd;exact Go.Lib.rl_loadVar_cells 114 ie hie isAgg114 b o (bcells x) (by rw [hs];rfl) w hc
theorem yhv (w:World) (b o:Nat) (x:Ev K) (hc:∀ k v,(evcells x)[k]? = some v→w.cell? ⟨b,o+k,none⟩=some v):(loadVar 183 ⟨b,o,none⟩).run prog w = .ok (evv x) w:=by
 obtain⟨ie,hie,hs⟩:=infoEv;exact Go.Lib.rl_loadVar_cells 183 ie hie isAgg183 b o (evcells x) (by rw [hs];rfl) w hc
def EvAt (w:World) (b o:Nat) (x:Ev K):Prop:=∀ k v,(evcells x)[k]? = some v→w.cell? ⟨b,o+k,none⟩=some v
def BAt (w:World) (b o:Nat) (x:Bd K):Prop:=∀ k v,(bcells x)[k]? = some v→w.cell? ⟨b,o+k,none⟩=some v
theorem EvAt.bd {w:World} {b o:Nat} {x:Ev K} (h:EvAt w b o x):BAt w b o x.at_:=fun k v hk=>by
 refine h k v ?_;unfold evcells;rw [List.getElem?_append_left (List.getElem?_eq_some_iff.1 hk).1];exact hk
theorem EvAt.x {w:World} {b o:Nat} {x:Ev K} (h:EvAt w b o x):w.cell? ⟨b,o+10,none⟩=some (.int .i64 x.x):=h 10 _ rfl
theorem EvAt.y {w:World} {b o:Nat} {x:Ev K} (h:EvAt w b o x):w.cell? ⟨b,o+11,none⟩=some (.int .i64 x.y):=h 11 _ rfl
theorem EvAt.keep {w w':World} {b o:Nat} {x:Ev K} (h:EvAt w b o x) (hb:w'.heap[b]? = w.heap[b]?):EvAt w' b o x:=fun k v hk=>by
 rw [World.cell?_of_block hb];exact h k v hk
theorem BAt.keep {w w':World} {b o:Nat} {x:Bd K} (h:BAt w b o x) (hb:w'.heap[b]? = w.heap[b]?):BAt w' b o x:=fun k v hk=>by
 rw [World.cell?_of_block hb];exact h k v hk
theorem ybS {w:World} {g:Nat} {x:Ev K} {t:TypeId} (h:w.heap[g]? = some (.cells (eC x) t)):EvAt w g 0 x:=fun k v hk=>by
 rw [Nat.zero_add,yab h];exact (List.getElem?_toArray ..).trans hk
theorem bAt_box {w:World} {g:Nat} {x:Bd K} {t:TypeId} (h:w.heap[g]? = some (.cells (bC x) t)):BAt w g 0 x:=fun k v hk=>by
 rw [Nat.zero_add,yab h];exact (List.getElem?_toArray ..).trans hk
abbrev EvR:=RowE (fun e:Ev K=>evcells e)
abbrev OV_:=OE (fun e:Ev K=>evcells e) 183 12
theorem EvR.elem {w:World} {a:Option Addr} {n c:Nat} {l:List (Ev K)} (h:EvR w (.slice a n c) l) (i:Nat) (hi:i<l.length):∃ g o,a=some ⟨g,o,none⟩∧g<w.heap.size∧EvAt w g (o+i*12) l[i]:=RowE.elem ydu h i hi
theorem yhj (f1 f4 f7 o:Bool) (f2 f3 f5 f6:ByteArray):prog.built 183 [(0,.agg #[.bool f1,.string f2,.bool false,.string f3,.bool f4,.string f5,.bool false,.string f6,.bool f7,.bool o])]=some #[.bool f1,.string f2,.bool false,.string f3,.bool f4,.string f5,.bool false,.string f6,.bool f7,.bool o,.int .i64 0,.int .i64 0]:=by kernel_rfl
theorem yeo (b:Bd K):prog.built 183 [(0,bv b)]=some (eC ⟨b,0,0⟩):=yhj _ _ _ _ _ _ _ _
theorem infoEvB:(prog.info? 183).map (fun i=>(i.zero.map Value.cells,i.size,i.bytes))=some (some #[.bool false,.string ⟨#[]⟩,.bool false,.string ⟨#[]⟩,.bool false,.string ⟨#[]⟩,.bool false,.string ⟨#[]⟩,.bool false,.bool false,.int .i64 0,.int .i64 0],12,128):=by kernel_rfl
theorem ev_info:∃ i z,prog.info? 183=some i∧i.zero=some z∧i.size=12∧i.bytes=128∧z.cells = #[.bool false,.string ⟨#[]⟩,.bool false,.string ⟨#[]⟩,.bool false,.string ⟨#[]⟩,.bool false,.string ⟨#[]⟩,.bool false,.bool false,.int .i64 0,.int .i64 0]:=by
 have h:=infoEvB;cases hi:prog.info? 183 with
 | none=>rw [hi] at h;cases h
 | some i =>
  rw [hi] at h;simp only [Option.map_some,Option.some.injEq,Prod.mk.injEq] at h;obtain⟨h1,h2,h3⟩:=h;cases hz:i.zero with
  | none=>rw [hz] at h1;cases h1
  | some z =>
   rw [hz] at h1;injection h1 with h1;exact ⟨i,z,rfl,hz,h2,h3,h1⟩
theorem fill_ev2 (b1 b4 b7 b8 d1 d4 d7 d8:Bool) (s2 s3 s5 s6 t2 t3 t5 t6:ByteArray) (x y u v:Int):Instr.fill (fun i=>some (i*12,12)) ((Array.range (2*12)).map ((#[.bool false,.string ⟨#[]⟩,.bool false,.string ⟨#[]⟩,.bool false,.string ⟨#[]⟩,.bool false,.string ⟨#[]⟩,.bool false,.bool false,.int .i64 0,.int .i64 0]:Array Value)[· % (#[.bool false,.string ⟨#[]⟩,.bool false,.string ⟨#[]⟩,.bool false,.string ⟨#[]⟩,.bool false,.string ⟨#[]⟩,.bool false,.bool false,.int .i64 0,.int .i64 0]:Array Value).size]!))
  #[(0, Value.agg #[.bool b1, .string s2, .bool false, .string s3, .bool b4, .string s5, .bool false, .string s6, .bool b7, .bool b8, .int .i64 x, .int .i64 y]), (1, Value.agg #[.bool d1, .string t2, .bool false, .string t3, .bool d4, .string t5, .bool false, .string t6, .bool d7, .bool d8, .int .i64 u, .int .i64 v])].toList = some #[.bool b1, .string s2, .bool false, .string s3, .bool b4, .string s5, .bool false, .string s6, .bool b7, .bool b8, .int .i64 x, .int .i64 y, .bool d1, .string t2, .bool false, .string t3, .bool d4, .string t5, .bool false, .string t6, .bool d7, .bool d8, .int .i64 u, .int .i64 v] := by kernel_rfl
theorem yiA (e:Ev K):evv e = .agg #[.bool (sgB e.at_.pt.1.p.num),.string (mgS e.at_.pt.1.p.num),.bool false,.string (dnS e.at_.pt.1.p.den),.bool (sgB e.at_.pt.1.r.num),.string (mgS e.at_.pt.1.r.num),.bool false,.string (dnS e.at_.pt.1.r.den),.bool e.at_.pt.1.neg,.bool e.at_.beh,.int .i64 e.x,.int .i64 e.y]:=rfl
theorem build2_e (x y:Ev K) (w:World):(Instr.buildSlice 180 2 #[(0,evv x),(1,evv y)]).run prog w = .ok (.slice (some ⟨w.heap.size,0,none⟩) 2 2) (w.alloc (.cells (evcells x++evcells y).toArray 183)):=by
 obtain⟨i,z,hi,hz,hs,hb,hzc⟩:=ev_info;refine run_buildSlice (P:=prog) w 180 183 2 _ _ i z underlying180 hi hz (by rw [hs];decide) (by rw [hs];decide) ?_;rw [hs,hzc,yiA,yiA];exact fill_ev2 _ _ _ _ _ _ _ _ _ _ _ _ _ _ _ _ _ _ _ _
theorem EvR.pair (x y:Ev K) (w:World):∃ u g,w.alloc (.cells (evcells x++evcells y).toArray 183)=u∧w.heap.size=g∧u.heap.size=g+1∧Keep [] w u∧EvR u (.slice (some ⟨g,0,none⟩) 2 2) [x,y]:=by
 refine ⟨_,_,rfl,rfl,by simp,Keep.alloc [] w _,.inr ⟨w.heap.size,0,2,rfl,Nat.le_refl _,by simp,fun i v hv=>?_⟩⟩;rw [Nat.zero_add,yab (World.alloc_heap_new w _)];exact (List.getElem?_toArray ..).trans (by simpa using hv)
theorem EvR.app {ty:TypeId} {w0 w:World} {v y:Value} {l m:List (Ev K)} (h:OV_ w0 w v l) (hv:v.ownBlock≠none∨0<m.length) (hy:EvR w y m) (hb:l.length+m.length≤1000000000) :
  ∃ v' w',(Builtin.append_ #[180,180] ty #[v,y]).run prog w = .ok v' w'∧OV_ w0 w' v' (l++m)∧v'.ownBlock≠none∧∀ F,(∀ g,v.ownBlock=some g→g∈F)→Keep F w w':=by
 obtain⟨i,z,hi,hz,hs,hbt,hzc⟩:=ev_info;exact OE.app (P:=prog) (bytes:=128) underlying180 hi hz hs hbt (by rw [hzc];rfl) (by decide) ydu ydp h hv hy (by unfold maxLen;omega) (by omega)
theorem yhp (x:Ev K):(prog.info? 183).map (·.size)=some (eC x).size:=by
 obtain⟨i,z,hi,hz,hs,hb,hzc⟩:=ev_info;rw [hi];exact congrArg some hs
theorem bd_size (x:Bd K):(prog.info? 114).map (·.size)=some (bC x).size:=by
 obtain⟨ie,hie,hs⟩:=infoBd;rw [hie];exact congrArg some hs
theorem yhE (x:Ev K):(eC x).all (·.oneCell')=true:=all_oneCell_toArray (ydp x)
theorem bd_ones (x:Bd K):(bC x).all (·.oneCell')=true:=all_oneCell_toArray (yfB x)
theorem put_ev (b:Bd K) (k:Nat) (hk:k<2) (n:Int):putAt (eC ⟨b,0,0⟩) (10+k) [.int .i64 n]=eC ⟨b,if k=0 then n else 0,if k=0 then 0 else n⟩:=by
 rcases k with _|_|k
 ·rfl
 ·rfl
 omega
theorem evcmp_c (x y:Ev K) (w:World):Calls prog 163 #[.agg (eC x),.agg (eC y)] w fun e w'=>e = .returned (.int .i64 (cmpB x.at_ y.at_))∧Keep [] w w':=by
 have HX:=jX (fun w g (h:w.heap[g]? = some (.cells (eC x) 183))=>ycS w g 0 x.at_ (ybS h).bd);have HY:=jX (fun w g (h:w.heap[g]? = some (.cells (eC y) 183))=>ycS w g 0 y.at_ (ybS h).bd);have HC:=jX (yiE x.at_ y.at_);generalize eC x=X at *;generalize eC y=Y at *;go_enter func163,ntmps163
 go_upto_region 1 with (fail)
 obtain⟨W,ga,gb,hW,ega,egb,Bga,Bgb,hga,hgb,hgW,HkW⟩:=al2h w (.cells X 183) (.cells Y 183);rw [← hW];try rw [egb]
 try rw [ega]
 clear hW ega egb;have La:=HX.out _ _ Bga.out;have Lb:=HY.out _ _ Bgb.out;refine wp_region_lit ?_;refine wV ?_;go_simp;refine wX (v:=bv x.at_) ⟨ga,0,none⟩ (La) ?_;go_simp;refine wV ?_;go_simp;refine wX (v:=bv y.at_) ⟨gb,0,none⟩ (Lb) ?_;go_simp;refine wpList_plain (by rfl) (fun K hK=>?_);refine yag 76 #[bv x.at_,bv y.at_] (by go_simp) ?_;refine (HC.out _).mono ?_;rintro e w5 ⟨rfl,hk5⟩;refine ⟨_,rfl,?_⟩;go_simp;go_step
 clear La Lb;have HkZ:=jX (HkW.out.tz hk5);go_wp2_with fail;go_ret
 exact ⟨rfl,HkZ.out⟩
end Go.Proofs.YtpgffjjpiafhpaaGreatDoor
namespace Go.Proofs
open Go.RowKit
section
open Go.Shelf
def Tryz.sortEv_ren:Go.Shelf.Ren:=⟨fun|6=>162|15=>183|14=>192|28=>211|29=>191|20=>222|21=>223|22=>224|23=>225|24=>226|25=>227|26=>228|27=>229|46=>241|47=>234|48=>235|49=>242|50=>243|57=>256|n=>n,fun|22=>180|24=>183|25=>185|3=>3|39=>201|0=>0|53=>230|55=>175|4=>4|46=>224|45=>223|50=>219|5=>5|9=>9|66=>251|70=>255|76=>272|77=>273|n=>n,fun|n=>n⟩
theorem Tryz.sortEv:Go.Proofs.SlLaysF0.n6 Tryz.prog Tryz.sortEv_ren:={
 mixed:=by kernel_rfl
 f6:=⟨Tryz.f162.name,by decide,Tryz.func162.trans (congrArg some (by kernel_rfl))⟩
 f14:=⟨Tryz.f192.name,by decide,Tryz.func192.trans (congrArg some (by kernel_rfl))⟩
 f15:=Tryz.func183.trans (congrArg some (by kernel_rfl))
 f20:=⟨Tryz.f222.name,by decide,Tryz.func222.trans (congrArg some (by kernel_rfl))⟩
 f21:=⟨Tryz.f223.name,by decide,Tryz.func223.trans (congrArg some (by kernel_rfl))⟩
 f22:=⟨Tryz.f224.name,by decide,Tryz.func224.trans (congrArg some (by kernel_rfl))⟩
 f23:=⟨Tryz.f225.name,by decide,Tryz.func225.trans (congrArg some (by kernel_rfl))⟩
 f24:=⟨Tryz.f226.name,by decide,Tryz.func226.trans (congrArg some (by kernel_rfl))⟩
 f25:=⟨Tryz.f227.name,by decide,Tryz.func227.trans (congrArg some (by kernel_rfl))⟩
 f26:=⟨Tryz.f228.name,by decide,Tryz.func228.trans (congrArg some (by kernel_rfl))⟩
 f27:=⟨Tryz.f229.name,by decide,Tryz.func229.trans (congrArg some (by kernel_rfl))⟩
 f28:=Tryz.func211.trans (congrArg some (by kernel_rfl))
 f29:=Tryz.func191.trans (congrArg some (by kernel_rfl))
 f46:=⟨Tryz.f241.name,by decide,Tryz.func241.trans (congrArg some (by kernel_rfl))⟩
 f47:=Tryz.func234.trans (congrArg some (by kernel_rfl))
 f48:=Tryz.func235.trans (congrArg some (by kernel_rfl))
 f49:=⟨Tryz.f242.name,by decide,Tryz.func242.trans (congrArg some (by kernel_rfl))⟩
 f50:=⟨Tryz.f243.name,by decide,Tryz.func243.trans (congrArg some (by kernel_rfl))⟩
 f57:=⟨Tryz.f256.name,by decide,Tryz.func256.trans (congrArg some (by kernel_rfl))⟩
 t0:=Tryz.underlying0
 a0:=Tryz.isAgg0
 z0:=Tryz.sizeOf0
 v0:=Tryz.zeroValue0
 t3:=Tryz.underlying3
 a3:=Tryz.isAgg3
 z3:=Tryz.sizeOf3
 v3:=Tryz.zeroValue3
 t4:=Tryz.underlying4
 a4:=Tryz.isAgg4
 z4:=Tryz.sizeOf4
 v4:=Tryz.zeroValue4
 t5:=Tryz.underlying5
 a5:=Tryz.isAgg5
 z5:=Tryz.sizeOf5
 v5:=Tryz.zeroValue5
 t9:=Tryz.underlying9
 a9:=Tryz.isAgg9
 z9:=Tryz.sizeOf9
 v9:=Tryz.zeroValue9
 t22:=Tryz.underlying180
 a22:=Tryz.isAgg180
 z22:=Tryz.sizeOf180
 v22:=Tryz.zeroValue180
 t25:=Tryz.underlying185
 a25:=Tryz.isAgg185
 z25:=Tryz.sizeOf185
 v25:=Tryz.zeroValue185
 t39:=Tryz.underlying201
 a39:=Tryz.isAgg201
 z39:=Tryz.sizeOf201
 v39:=Tryz.zeroValue201
 t45:=Tryz.underlying223
 a45:=Tryz.isAgg223
 z45:=Tryz.sizeOf223
 v45:=Tryz.zeroValue223
 t46:=Tryz.underlying224
 a46:=Tryz.isAgg224
 z46:=Tryz.sizeOf224
 v46:=Tryz.zeroValue224
 t50:=Tryz.underlying219
 a50:=Tryz.isAgg219
 z50:=Tryz.sizeOf219
 v50:=Tryz.zeroValue219
 t53:=Tryz.underlying230
 a53:=Tryz.isAgg230
 z53:=Tryz.sizeOf230
 v53:=Tryz.zeroValue230
 t55:=Tryz.underlying175
 a55:=Tryz.isAgg175
 z55:=Tryz.sizeOf175
 v55:=Tryz.zeroValue175
 t66:=Tryz.underlying251
 a66:=Tryz.isAgg251
 z66:=Tryz.sizeOf251
 v66:=Tryz.zeroValue251
 t70:=Tryz.underlying255
 a70:=Tryz.isAgg255
 z70:=Tryz.sizeOf255
 v70:=Tryz.zeroValue255
 t76:=Tryz.underlying272
 a76:=Tryz.isAgg272
 z76:=Tryz.sizeOf272
 v76:=Tryz.zeroValue272
 t77:=Tryz.underlying273
 a77:=Tryz.isAgg273
 z77:=Tryz.sizeOf273
 v77:=Tryz.zeroValue273 }
end
end Go.Proofs
namespace Go.Proofs.YtpgffjjpiafhpaaGreatDoor
open Go.RowKit Tryz
section
open Go.RowKit Go.Sort
theorem ygr (a b:Bd K):cmpB a b<0↔a<b:=by
 rcases yey a b with ⟨h,g⟩|⟨h,g⟩|⟨h,g⟩
 ·rw [h];constructor
  ·intro h;exact absurd h (by decide)
  intro h;grind
 ·rw [h];exact ⟨fun _=>g,fun _=>by decide⟩
 rw [h];subst g;constructor
 ·intro h;exact absurd h (by decide)
 intro h;grind
theorem cmpB_swo:SWO (ltOf fun x y:Ev K=>cmpB x.at_ y.at_) where
 irrefl x:=by unfold ltOf;rw [decide_eq_false_iff_not,ygr];grind
 trans x y z h1 h2:=by unfold ltOf at *;rw [decide_eq_true_iff,ygr] at *;grind
 ntrans x y z h1 h2:=by unfold ltOf at *;rw [decide_eq_false_iff_not,ygr] at *;grind
def kZ:K:=⟨⟨0,0,false⟩,⟨by show (0:Rat)≤0;grind,fun _=>rfl,fun h=>absurd rfl h⟩,by
 have h0:FitQ 1 0:=by refine ⟨?_,?_⟩<;>rw [Fit_iff]<;>decide
 exact ⟨h0.mono (by decide),h0.mono (by decide)⟩⟩
instance:Inhabited (Ev K):=⟨⟨⟨kZ,false⟩,0,0⟩⟩
theorem own_fz {w:World} {e:TypeId} {k n:Nat} {v:Value} {xs:List Value} (h:w.ownsRow 0 e k v n xs):∀ g,v.ownBlock=some g→∀ j,w.frozen? ⟨g,j,none⟩=false:=by
 rcases h.2 with ⟨rfl,_⟩|⟨g',cap,cur,rfl,hb,hg,_⟩
 ·intro g hg;cases hg
 intro g hgg j;simp [Value.ownBlock] at hgg;subst hgg;exact yae hg j
theorem sortev_c (l:List (Ev K)) (w0 w:World) (sv:Value) (h:OV_ w0 w sv l) (h9:l.length≤1000000000) :
  Calls Tryz.prog 162 #[sv,.func (.func 163) #[] #[]] w fun e w'=>e = .returned (.tuple #[])∧∃ l':List (Ev K),l'.Perm l∧InOrd l'∧EvR w' sv l'∧Keep [] w0 w':=by
 have hfz:=own_fz h.row;have hb:=h.base;rcases h.read with ⟨rfl,rfl⟩|⟨g,o,c,rfl,hc,hg,hx⟩
 ·have:=AnyF.slices_SortFunc_none { Tryz.sortEv with } none 0 (.func (.func 163) #[] #[]) w
  change Calls Tryz.prog 162 _ _ _ at this;refine this.mono ?_;rintro e w' ⟨he,rfl⟩;exact ⟨he,[],List.Perm.refl _,List.Pairwise.nil,RowE.nil _,h.keep⟩
 have ho:o=0:=by
  rcases h.row.2 with ⟨hv,_⟩|⟨g',cap,cur,hv,_⟩
  ·cases hv
  injection hv with e1;injection e1 with e1;injection e1
 subst ho;have:=sort_row (P:=Tryz.prog) Tryz.sortEv (enc:=fun e:Ev K=>evcells e) (k:=12) (by decide) Tryz.isAgg183 Tryz.sizeOf183 ydu ydp (fun x y=>cmpB x.at_ y.at_) cmpB_swo 163 (enters_of Tryz.func163 (by kernel_rfl) rfl) (fun x y w=>evcmp_c x y w) h.read (fun j=>by rw [Nat.zero_add];exact hfz g rfl j) (by omega);change Calls Tryz.prog 162 _ _ _ at this;refine this.mono ?_;rintro e w' ⟨he,l',hp,hs,hr,hk⟩;refine ⟨he,l',hp,hs.imp (fun {x y} hxy=>?_),hr,h.keep.trans hk (by simp;exact hb g rfl)⟩;unfold ltOf at hxy;rw [decide_eq_false_iff_not,ygr] at hxy;grind
structure OF {α:Type} (enc:α→List Value) (e:TypeId) (k:Nat) (F:List Nat) (w0 w:World) (v:Value) (l:List α):Prop where
 row:w.ownsRow 0 e k v l.length (l.flatMap enc)
 base:∀ g,v.ownBlock=some g→w0.heap.size≤g
 keep:Keep F w0 w
section
variable {α:Type} {enc:α→List Value} {e:TypeId} {k:Nat} {F:List Nat} {w0 w w':World} {v:Value} {l:List α}
theorem OF.nil:OF enc e k F w w (.slice none 0 0) []:=⟨⟨by simp,.inl ⟨rfl,rfl⟩⟩,by simp [Value.ownBlock],Keep.refl _ _⟩
theorem OF.oe (h:OF enc e k F w0 w v l):∃ w1,w1.heap.size=w0.heap.size∧Keep F w0 w1∧OE enc e k w1 w v l:=by
 have hs:=h.keep.size;have hsz:(w.heap.extract 0 w0.heap.size).size=w0.heap.size:=by simp;omega
 have hget:∀ j,j<w0.heap.size→(w.heap.extract 0 w0.heap.size)[j]? = w.heap[j]?:=fun j hj=>by
  rw [Array.getElem?_eq_getElem (by rw [hsz];exact hj),Array.getElem?_eq_getElem (by omega)];simp
 refine ⟨{ w with heap:=w.heap.extract 0 w0.heap.size },hsz,?_,h.row,?_,?_⟩
 ·exact ⟨h.keep.os,h.keep.tape,h.keep.output,by dsimp only;omega,h.keep.drawn,fun j hj hn=>by dsimp only;rw [hget j hj];exact h.keep.block j hj hn⟩
 ·intro g hg;dsimp only;rw [hsz];exact h.base g hg
 refine ⟨rfl,rfl,rfl,by dsimp only;omega,Nat.le_refl _,fun j hj _=>?_⟩;dsimp only at hj ⊢;rw [hsz] at hj;exact (hget j hj).symm
theorem OF.of {w1:World} (hs:w1.heap.size=w0.heap.size) (hk:Keep F w0 w1) (h:OE enc e k w1 w v l):OF enc e k F w0 w v l :=
 ⟨h.row,fun g hg=>by rw [← hs];exact h.base g hg,hk.trans h.keep (by simp)⟩
theorem OF.later (h:OF enc e k F w0 w v l) (hk:Keep [] w w'):OF enc e k F w0 w' v l:=⟨yat h.row hk (by simp),h.base,h.keep.trans hk (by simp)⟩
theorem OF.set {G:List Nat} (h:OF enc e k F w0 w v l) (hk:Keep G w w') (hG:∀ g∈G,g∈F∧g<w0.heap.size):OF enc e k F w0 w' v l :=
 ⟨yat h.row hk (fun g hg hm=>by have:=h.base g hg;have:=(hG g hm).2;omega),h.base,h.keep.trans hk (fun x hx=>.inl (hG x hx).1)⟩
theorem OF.form (h:OF enc e k F w0 w v l):∃ po pc,v = .slice po l.length pc:=ydS h.row
theorem OF.read (h:OF enc e k F w0 w v l):RowE enc w v l:=by
 obtain⟨w1,_,_,h1⟩:=h.oe;exact h1.read
end
abbrev OFI:=OF (fun i:Iv K=>icells i) 32 20
theorem OFI.app {ty:TypeId} {F:List Nat} {w0 w:World} {v y:Value} {l m:List (Iv K)} (h:OFI F w0 w v l) (hm:0<m.length) (hy:IvR w y m) (hb:l.length+m.length≤1000000000) :
  ∃ v' w',(Builtin.append_ #[22,22] ty #[v,y]).run Tryz.prog w = .ok v' w'∧OFI F w0 w' v' (l++m)∧∀ j o,j<w0.heap.size→w.heap[j]? = some o→w'.heap[j]? = some o:=by
 obtain⟨w1,hs,hk,h1⟩:=h.oe;obtain⟨v',w',hr,ho,_,hK⟩:=IvR.app (ty:=ty) h1 (.inr hm) hy hb;refine ⟨v',w',hr,OF.of hs hk ho,fun j o hj hg=>?_⟩;rcases hv:v.ownBlock with _|g
 ·exact (hK [] (fun g hg=>by rw [hv] at hg;cases hg)).heap hg (by simp)
 refine (hK [g] (fun x hx=>by rw [hv] at hx;injection hx with hx;simp [hx])).heap hg ?_;have:=h.base g hv;simp;omega
end
end Go.Proofs.YtpgffjjpiafhpaaGreatDoor
