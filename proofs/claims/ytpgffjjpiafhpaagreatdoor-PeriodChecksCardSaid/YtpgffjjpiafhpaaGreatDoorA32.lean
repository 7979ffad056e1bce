/- Parts of a proof about this translation: Va, Vd, Ia, Jb, Id, Jc. -/
import Derived.Deep.Slices
import Derived.Lib.SmallJoins
import Derived.RegionTactic
import Derived.ChangeAlike
import Derived.BigRegion
import Derived.Test.YtpgffjjpiafhpaaGreatDoorA28
import Derived.Test.YtpgffjjpiafhpaaGreatDoorA31
import Derived.Test.YtpgffjjpiafhpaaGreatDoorA29
import Derived.Test.YtpgffjjpiafhpaaGreatDoorA30
set_option linter.unusedVariables false
set_option linter.unusedSimpArgs false
set_option maxRecDepth 100000
set_option maxHeartbeats 8000000
namespace Go.Proofs.YtpgffjjpiafhpaaGreatDoor
open Go.RowKit
section
open Go.ChangeShapes Go.WideShapes Go.ChangeAt
theorem mapM_get {α β:Type} (f:α→Option β):∀ (l:List α) (cs:List β),l.mapM f=some cs→cs.length=l.length∧∀ (i:Nat) (x:α),l[i]? = some x→f x=cs[i]?
 | [],cs,h=>by
  simp at h;subst h;exact ⟨rfl,fun i x hx=>by simp at hx⟩
 | x :: l,cs,h=>by
  rw [List.mapM_cons] at h
  simp only [Option.bind_eq_bind,Option.pure_def,Option.bind_eq_some_iff] at h
  obtain⟨y,hy,ys,hys,h⟩:=h
  simp at h;subst h
  obtain⟨h1,h2⟩:=mapM_get f l ys hys
  refine ⟨by simp [h1],fun i z hz=>?_⟩
  cases i with
  | zero=>simp at hz;subst hz;simpa using hy
  | succ i=>simp at hz ⊢;exact h2 i z hz
theorem cells?_get {w:World} {base n:Nat} {a:Addr} {cs:List Value} (h:w.cells? base a n=some cs):cs.length=n∧∀ i,i<n→w.cell? (a.add i)=cs[i]?:=by
 unfold World.cells? at h
 split at h
 ·obtain⟨h1,h2⟩:=mapM_get _ _ _ h
  exact ⟨by simpa using h1,fun i hi=>h2 i i (by rw [List.getElem?_range hi])⟩
 cases h
theorem plain_of_cell {w:World} {a:Addr} {v:Value} (h:w.cell? a=some v):∃ b off,a=⟨b,off,none⟩:=by
 obtain⟨b,off,sp⟩:=a
 cases sp with
 | none=>exact ⟨b,off,rfl⟩
 | some x=>simp [World.cell?] at h;split at h<;>simp at h
theorem cells_bool:Tryz.prog.cellsOf 4=1:=by kernel_rfl
section
variable {H:Type} {enc:TypeId × Value→H} {w:World} {base:Nat} {held:Bool} {fuel:Nat}
end
end
section
open Go.ChangeShapes Go.WideShapes Go.ChangeAt
structure FrA where
 num:Int
 den:Int
 up:Nat
 down:Nat
 hn : -9223372036854775808≤num∧num≤9223372036854775807
 hd : -9223372036854775808≤den∧den≤9223372036854775807
 hu:up≤255
 hw:down≤255
def FrA.v (a:FrA):Value:=.agg #[.int .i64 a.num,.int .i64 a.den,.int .u8 a.up,.int .u8 a.down]
end
section
open Go.ChangeShapes Go.WideShapes Go.ChangeAt
theorem cells_str:Tryz.prog.cellsOf 9=1:=by kernel_rfl
theorem cells_zint:Tryz.prog.cellsOf 26=2:=by kernel_rfl
theorem cells_zrat:Tryz.prog.cellsOf 28=4:=by kernel_rfl
theorem cells_zreal:Tryz.prog.cellsOf 30=9:=by kernel_rfl
theorem cells_zivl:Tryz.prog.cellsOf 32=20:=by kernel_rfl
theorem slice_ok {w:World} {base:Nat} {t e:TypeId} {a:Option Addr} {len cap:Nat} (ht:Tryz.prog.underlying t=some (.slice e)) (h:Cell.okWide Tryz.prog w .any base t (.slice a len cap)) :
  (a=none∧len=0∧cap=0)∨∃ b off,a=some ⟨b,off,none⟩∧len≤cap∧b<w.heap.size:=by
 simp only [Cell.okWide,ht] at h
 unfold Cell.ok at h
 simp only [ht] at h
 cases a with
 | none =>
  left
  cases len with
  | zero =>
   cases cap with
   | zero=>exact ⟨rfl,rfl,rfl⟩
   | succ _=>exact absurd h id
  | succ _=>exact absurd h id
 | some a =>
  right
  have h':len≤cap∧(cap:Int)≤IntKind.i64.max∧w.has Tryz.prog .any base a e cap:=h
  obtain⟨h1,_,_,hs,row,cells,hsh,_⟩:=h'
  obtain⟨b,off,sp⟩:=a
  dsimp only at hs hsh
  subst hs
  refine ⟨b,off,rfl,h1,?_⟩
  unfold World.shape? at hsh
  rcases Nat.lt_or_ge b w.heap.size with h|h
  ·exact h
  rw [Array.getElem?_eq_none h] at hsh
  cases hsh
section
variable {H:Type} {enc:TypeId × Value→H} {w:World} {base:Nat} {held:Bool} {fuel:Nat}
def Wt (t:TypeId) (d:DataW H) (B:Nat):Prop:=∀ n∈d.weights Tryz.prog t,n≤B
theorem wt_head {t:TypeId} {ts:List TypeId} {d:DataW H} {r:List (DataW H)} (h:(DataW.weightsEach Tryz.prog (t :: ts) (d :: r)).all (· ≤ reachBytes)=true):Wt t d reachBytes:=fun n hn=>by
 have:=List.all_eq_true.1 h n (by rw [DataW.weightsEach];exact List.mem_append_left _ hn)
 simpa using this
theorem wt_tail {t:TypeId} {ts:List TypeId} {d:DataW H} {r:List (DataW H)} (h:(DataW.weightsEach Tryz.prog (t :: ts) (d :: r)).all (· ≤ reachBytes)=true):(DataW.weightsEach Tryz.prog ts r).all (· ≤ reachBytes)=true:=by
 rw [DataW.weightsEach,List.all_append,Bool.and_eq_true] at h
 exact h.2
theorem zint_w (a b:DataW H):(DataW.agg [a,b]:DataW H).weights Tryz.prog 26=a.weights Tryz.prog 4++b.weights Tryz.prog 9:=by
 simp [DataW.weights,DataW.weightsEach,Tryz.underlying26]
theorem zrat_w (a b:DataW H):(DataW.agg [a,b]:DataW H).weights Tryz.prog 28=a.weights Tryz.prog 26++b.weights Tryz.prog 26:=by
 simp [DataW.weights,DataW.weightsEach,Tryz.underlying28]
theorem zreal_w (a b c:DataW H):(DataW.agg [a,b,c]:DataW H).weights Tryz.prog 30=a.weights Tryz.prog 28++(b.weights Tryz.prog 28++c.weights Tryz.prog 4):=by
 simp [DataW.weights,DataW.weightsEach,Tryz.underlying30]
theorem zivl_w (a b c d:DataW H):(DataW.agg [a,b,c,d]:DataW H).weights Tryz.prog 32=a.weights Tryz.prog 30++(b.weights Tryz.prog 30++(c.weights Tryz.prog 4++d.weights Tryz.prog 4)):=by
 simp [DataW.weights,DataW.weightsEach,Tryz.underlying32]
theorem all_w {e:TypeId} {d:DataW H}:∀ {l:List (DataW H)},d∈l→∀ n∈d.weights Tryz.prog e,n∈DataW.weightsAll Tryz.prog e l
 | x :: l,h,n,hn=>by
  rw [DataW.weightsAll]
  rcases List.mem_cons.1 h with rfl|h
  ·exact List.mem_append_left _ hn
  exact List.mem_append_right _ (all_w h n hn)
theorem zint_trod {cs:List Value} {x:DataW H × List MemPlace} (h:DataW.trod enc Tryz.prog w base (fun _=>true) held fuel 26 cs=some x):∃ (b:Bool) (s:ByteArray),cs=[.bool b,.string s]∧∀ B,Wt 26 x.1 B→s.size≤B:=by
 obtain⟨xs,n,_,rfl,hl,hlen,hf⟩:=DataW.trod_struct Tryz.underlying26 h
 rw [cells_zint] at hl
 match cs,hl with
 | [c0,c1],_ =>
  match xs,hlen with
  | [x0,x1],_ =>
   have h0:DataW.trod enc Tryz.prog w base (fun _=>true) held n 4 (([c0,c1].drop 0).take (Tryz.prog.cellsOf 4))=some x0:=hf 0 _ rfl
   have h1:DataW.trod enc Tryz.prog w base (fun _=>true) held n 9 (([c0,c1].drop 1).take (Tryz.prog.cellsOf 9))=some x1:=hf 1 _ rfl
   rw [cells_bool] at h0
   rw [cells_str] at h1
   obtain⟨b,e0,_⟩:=DataW.trod_bool Tryz.underlying4 h0
   obtain⟨s,e1,rfl,_⟩:=DataW.trod_string Tryz.underlying9 h1
   simp at e0 e1
   refine ⟨b,s,by rw [e0,e1],fun B hB=>hB _ ?_⟩
   simp only [List.map_cons,List.map_nil]
   rw [zint_w]
   exact List.mem_append_right _ (by simp [DataW.weights])
theorem zrat_trod {cs:List Value} {x:DataW H × List MemPlace} (h:DataW.trod enc Tryz.prog w base (fun _=>true) held fuel 28 cs=some x):∃ (b:Bool) (s:ByteArray) (d:Bool) (t:ByteArray),cs=[.bool b,.string s,.bool d,.string t]∧∀ B,Wt 28 x.1 B→s.size≤B∧t.size≤B:=by
 obtain⟨xs,n,_,rfl,hl,hlen,hf⟩:=DataW.trod_struct Tryz.underlying28 h
 rw [cells_zrat] at hl
 match cs,hl with
 | [c0,c1,c2,c3],_ =>
  match xs,hlen with
  | [x0,x1],_ =>
   have h0:DataW.trod enc Tryz.prog w base (fun _=>true) held n 26 (([c0,c1,c2,c3].drop 0).take (Tryz.prog.cellsOf 26))=some x0:=hf 0 _ rfl
   have h1:DataW.trod enc Tryz.prog w base (fun _=>true) held n 26 (([c0,c1,c2,c3].drop 2).take (Tryz.prog.cellsOf 26))=some x1:=hf 1 _ rfl
   rw [cells_zint] at h0 h1
   obtain⟨b,s,e0,g0⟩:=zint_trod h0
   obtain⟨d,t,e1,g1⟩:=zint_trod h1
   simp at e0 e1
   refine ⟨b,s,d,t,by rw [e0.1,e0.2,e1.1,e1.2],fun B hB=>?_⟩
   simp only [List.map_cons,List.map_nil,Wt] at hB
   rw [zrat_w] at hB
   exact ⟨g0 B fun n hn=>hB n (List.mem_append_left _ hn),g1 B fun n hn=>hB n (List.mem_append_right _ hn)⟩
theorem zreal_trod {cs:List Value} {x:DataW H × List MemPlace} (h:DataW.trod enc Tryz.prog w base (fun _=>true) held fuel 30 cs=some x):∃ r:RawR,cs=r.cells∧∀ B,Wt 30 x.1 B→r.sz B:=by
 obtain⟨xs,n,_,rfl,hl,hlen,hf⟩:=DataW.trod_struct Tryz.underlying30 h
 rw [cells_zreal] at hl
 match cs,hl with
 | [c0,c1,c2,c3,c4,c5,c6,c7,c8],_ =>
  match xs,hlen with
  | [x0,x1,x2],_ =>
   have h0:DataW.trod enc Tryz.prog w base (fun _=>true) held n 28 (([c0,c1,c2,c3,c4,c5,c6,c7,c8].drop 0).take (Tryz.prog.cellsOf 28))=some x0:=hf 0 _ rfl
   have h1:DataW.trod enc Tryz.prog w base (fun _=>true) held n 28 (([c0,c1,c2,c3,c4,c5,c6,c7,c8].drop 4).take (Tryz.prog.cellsOf 28))=some x1:=hf 1 _ rfl
   have h2:DataW.trod enc Tryz.prog w base (fun _=>true) held n 4 (([c0,c1,c2,c3,c4,c5,c6,c7,c8].drop 8).take (Tryz.prog.cellsOf 4))=some x2:=hf 2 _ rfl
   rw [cells_zrat] at h0 h1
   rw [cells_bool] at h2
   obtain⟨b,s,d,t,e0,g0⟩:=zrat_trod h0
   obtain⟨b',s',d',t',e1,g1⟩:=zrat_trod h1
   obtain⟨g,e2,_⟩:=DataW.trod_bool Tryz.underlying4 h2
   simp at e0 e1 e2
   refine ⟨⟨b,s,d,t,b',s',d',t',g⟩,by simp only [RawR.cells];rw [e0.1,e0.2.1,e0.2.2.1,e0.2.2.2,e1.1,e1.2.1,e1.2.2.1,e1.2.2.2,e2],fun B hB=>?_⟩
   simp only [List.map_cons,List.map_nil,Wt] at hB
   rw [zreal_w] at hB
   have a0:=g0 B fun n hn=>hB n (List.mem_append_left _ hn)
   have a1:=g1 B fun n hn=>hB n (List.mem_append_right _ (List.mem_append_left _ hn))
   exact ⟨a0.1,a0.2,a1.1,a1.2⟩
theorem zivl_trod {cs:List Value} {x:DataW H × List MemPlace} (h:DataW.trod enc Tryz.prog w base (fun _=>true) held fuel 32 cs=some x):∃ r:RawI,cs=r.cells∧∀ B,Wt 32 x.1 B→r.sz B:=by
 obtain⟨xs,n,_,rfl,hl,hlen,hf⟩:=DataW.trod_struct Tryz.underlying32 h
 rw [cells_zivl] at hl
 match cs,hl with
 | [c0,c1,c2,c3,c4,c5,c6,c7,c8,c9,c10,c11,c12,c13,c14,c15,c16,c17,c18,c19],_ =>
  match xs,hlen with
  | [x0,x1,x2,x3],_ =>
   have h0:DataW.trod enc Tryz.prog w base (fun _=>true) held n 30 (([c0,c1,c2,c3,c4,c5,c6,c7,c8,c9,c10,c11,c12,c13,c14,c15,c16,c17,c18,c19].drop 0).take (Tryz.prog.cellsOf 30))=some x0:=hf 0 _ rfl
   have h1:DataW.trod enc Tryz.prog w base (fun _=>true) held n 30 (([c0,c1,c2,c3,c4,c5,c6,c7,c8,c9,c10,c11,c12,c13,c14,c15,c16,c17,c18,c19].drop 9).take (Tryz.prog.cellsOf 30))=some x1:=hf 1 _ rfl
   have h2:DataW.trod enc Tryz.prog w base (fun _=>true) held n 4 (([c0,c1,c2,c3,c4,c5,c6,c7,c8,c9,c10,c11,c12,c13,c14,c15,c16,c17,c18,c19].drop 18).take (Tryz.prog.cellsOf 4))=some x2:=hf 2 _ rfl
   have h3:DataW.trod enc Tryz.prog w base (fun _=>true) held n 4 (([c0,c1,c2,c3,c4,c5,c6,c7,c8,c9,c10,c11,c12,c13,c14,c15,c16,c17,c18,c19].drop 19).take (Tryz.prog.cellsOf 4))=some x3:=hf 3 _ rfl
   rw [cells_zreal] at h0 h1
   rw [cells_bool] at h2 h3
   obtain⟨f,e0,g0⟩:=zreal_trod h0
   obtain⟨t,e1,g1⟩:=zreal_trod h1
   obtain⟨a,e2,_⟩:=DataW.trod_bool Tryz.underlying4 h2
   obtain⟨b,e3,_⟩:=DataW.trod_bool Tryz.underlying4 h3
   refine ⟨⟨f,t,a,b⟩,?_,fun B hB=>?_⟩
   ·unfold RawI.cells
    simp at e0 e1 e2 e3
    rw [← e0,← e1,e2,e3]
    rfl
   simp only [List.map_cons,List.map_nil,Wt] at hB
   rw [zivl_w] at hB
   exact ⟨g0 B fun n hn=>hB n (List.mem_append_left _ hn),g1 B fun n hn=>hB n (List.mem_append_right _ (List.mem_append_left _ hn))⟩
theorem zivls_trod {sv:Value} {x:DataW H × List MemPlace} (h:DataW.trod enc Tryz.prog w base (fun _=>true) held fuel 22 [sv]=some x) {base2:Nat} (hok:Cell.okWide Tryz.prog w .any base2 22 sv) :
  ∃ l:List RawI,RIR w sv l∧l.length≤maxLen∧∀ B,Wt 22 x.1 B→∀ r∈l,r.sz B:=by
 rcases Go.Deep.open_slice Tryz.underlying22 h with ⟨hcs,_⟩|⟨a,len,cap,m,n,D,Pl,hcs,_,hl,hm,hmm,hx,hel⟩
 ·simp at hcs;exact ⟨[],.inl ⟨hcs,rfl⟩,by simp,fun _ _ _ h=>by cases h⟩
 simp at hcs hmm
 by_cases h0:len=0
 ·subst h0
  rw [hcs] at hok
  rcases slice_ok Tryz.underlying22 hok with ⟨h,_⟩|⟨b,off,h,_,hb⟩
  ·cases h
  injection h with h
  subst h
  exact ⟨[],.inr ⟨b,off,cap,hcs,by simp,hb,fun t v hv=>by simp at hv⟩,by simp,fun _ _ _ h=>by cases h⟩
 have hall:∀ i,i<cap→∃ s:RawI,w.cells? base (a.add (i*20)) 20=some s.cells∧∀ B,Wt 32 (D i) B→s.sz B:=by
  intro i hi
  obtain⟨cs',h1,h2⟩:=hel i (by omega)
  rw [cells_zivl] at h1
  obtain⟨s,rfl,hs⟩:=zivl_trod h2
  exact ⟨s,h1,hs⟩
 have hfun:∃ f:Nat→RawI,∀ i,i<cap→w.cells? base (a.add (i*20)) 20=some (f i).cells∧∀ B,Wt 32 (D i) B→(f i).sz B:=by
  obtain⟨s0,_⟩:=hall 0 (by omega)
  exact ⟨fun i=>if h:i<cap then Classical.choose (hall i h) else s0,fun i hi=>by simp only [hi,dif_pos];exact Classical.choose_spec (hall i hi)⟩
 obtain⟨f,hff⟩:=hfun
 have hf:∀ i,i<cap→w.cells? base (a.add (i*20)) 20=some (f i).cells:=fun i hi=>(hff i hi).1
 have hc0:=(cells?_get (hf 0 (by omega))).2 0 (by omega)
 obtain⟨b,off,hp⟩:=plain_of_cell (v:=.bool (f 0).f.a1) (by simpa [RawI.cells,RawR.cells] using hc0)
 have ha:a=⟨b,off,none⟩:=by unfold Addr.add at hp;simpa using hp
 subst ha
 refine ⟨(List.range len).map f,?_,by simp;omega,fun B hB r hr=>?_⟩
 rotate_left
 ·obtain⟨i,hi,rfl⟩:=List.mem_map.1 hr
  have hi':=List.mem_range.1 hi
  refine (hff i (by omega)).2 B fun k hk=>hB k ?_
  rw [hx]
  simp only [DataW.weights,Tryz.underlying22]
  exact List.mem_cons_of_mem _ (List.mem_append_left _ (all_w (List.mem_map_of_mem hi) k hk))
 refine .inr ⟨b,off,cap,by simpa using hcs,by simp;omega,?_,fun t v hv=>?_⟩
 ·exact World.block_lt_of_cell? w _ (by
   have e:=hc0
   rw [add_plain,add_plain] at e
   simp only [Nat.zero_mul,Nat.add_zero] at e
   exact e.trans (by simp [RawI.cells,RawR.cells];rfl))
 have ht:t<len*20:=by
  have:=(List.getElem?_eq_some_iff.1 hv).1
  rw [flat_len (fun r:RawI=>r.cells) rawi_len] at this
  simpa using this
 have hi:t / 20<len:=Nat.div_lt_of_lt_mul (by rw [Nat.mul_comm];exact ht)
 have hj:t % 20<20:=Nat.mod_lt _ (by decide)
 have h1:=flat_get (fun r:RawI=>r.cells) rawi_len ((List.range len).map f) (t / 20) (t % 20) (by simpa using hi) hj
 rw [Nat.div_add_mod' t 20,hv] at h1
 have h2:=(cells?_get (hf (t / 20) (by omega))).2 (t % 20) hj
 rw [add_plain,add_plain,Nat.add_assoc,Nat.div_add_mod' t 20] at h2
 rw [h2,h1]
 simp
end
def RIArg (w:World) (v:Value):Prop:=∃ l:List RawI,RIR w v l∧l.length≤9223372036854775807∧∀ r∈l,r.sz 140737488351232
theorem RIArg_open {H:Type} {enc:TypeId × Value→H} {W:World} {v:Value} {base:Nat} {d:DataW H} {p:List MemPlace} (hv:Value.okWide Tryz.prog W .any base 22 v)
  (h:∃ m,DataW.trod enc Tryz.prog W 0 (fun _=>true) true m 22 v.cells.toList=some (d,p)) (hw:Wt 22 d reachBytes):RIArg W v:=by
 obtain⟨a,len,cap,rfl⟩:=okWide_slice Tryz.underlying22 hv
 obtain⟨m,hm⟩:=h
 have hok:Cell.okWide Tryz.prog W .any base 22 (.slice a len cap):=by
  simp only [Value.okWide,Tryz.underlying22] at hv
  exact hv
 obtain⟨l,h1,h2,h3⟩:=zivls_trod hm hok
 exact ⟨l,h1,by unfold maxLen at h2;omega,h3 _ hw⟩
end
section
open Classical
theorem raw_v (r:RawI):r.v = .agg #[.bool r.f.a1,.string r.f.a2,.bool r.f.a3,.string r.f.a4,.bool r.f.b1,.string r.f.b2,.bool r.f.b3,.string r.f.b4,.bool r.f.n,.bool r.t.a1,.string r.t.a2,.bool r.t.a3,.string r.t.a4,.bool r.t.b1,.string r.t.b2,.bool r.t.b3,.string r.t.b4,.bool r.t.n,.bool r.o,.bool r.c]:=rfl
theorem eqRaw_at (i j:RawI) (w:World):(Op.equalIn 10000 32 i.v j.v).run Tryz.prog w = .ok (decide (i=j)) w:=by
 rw [raw_v,raw_v,show (10000:Nat)=9995+5 from rfl,eqI_in 9995 _ _ _ _ _ _ _ _ _ _ _ _ _ _ _ _ _ _ _ _ _ _ _ _ _ _ _ _ _ _ _ _ _ _ _ _ _ _ _ _ _ _ (fun w=>eqR_in 9995 _ _ _ _ _ _ _ _ _ _ _ _ _ _ _ _ _ _ w) (fun w=>eqR_in 9995 _ _ _ _ _ _ _ _ _ _ _ _ _ _ _ _ _ _ w)]
 refine congrArg (fun b=>Result.ok b w) ?_
 obtain⟨⟨a1,a2,a3,a4,a5,a6,a7,a8,a9⟩,⟨b1,b2,b3,b4,b5,b6,b7,b8,b9⟩,o,c⟩:=i
 obtain⟨⟨x1,x2,x3,x4,x5,x6,x7,x8,x9⟩,⟨y1,y2,y3,y4,y5,y6,y7,y8,y9⟩,p,d⟩:=j
 rw [Bool.eq_iff_iff]
 simp [and_assoc]
theorem neqRaw_run (i j:RawI) (w:World):(binOp .neq 32 i.v j.v).run Tryz.prog w = .ok (.bool (!decide (i=j))) w:=by
 have h:=eqRaw_at i j w
 rw [show i.v = .agg i.C from rfl,show j.v = .agg j.C from rfl] at *
 rw [run_neq_struct,h];rfl
theorem RIAt.ldR {w:World} {b o:Nat} {r:RawI} (h:RIAt w b o r) (hb:b<w.heap.size):∀ m:KW w,(loadVar 32 ⟨b,o,none⟩).run Tryz.prog (Wk w m) = .ok r.v (Wk w m) :=
 fun m=>load_rawi _ _ _ _ (h.keepB (m.k.block b hb (by simp)))
theorem equalR_c (l m:List RawI) (w:World) (sv tv:Value) (hr:RIR w sv l) (hs:RIR w tv m) (h9:l.length≤1000000000) (h8:m.length≤1000000000) :
  Calls Tryz.prog 21 #[sv,tv] w fun e w'=>e = .returned (.bool (decide (l=m)))∧Keep [] w w':=by
 have HR:=jX hr
 have HS:=jX hs
 obtain⟨ao,ac,rfl,_⟩:=hr.form
 obtain⟨bo,bc,rfl,_⟩:=hs.form
 clear hr hs
 by_cases hlen:l.length=m.length
 ·have hne:((l.length:Int) != (m.length:Int))=false:=by rw [hlen];simp
  have Hlen:=jX hlen
  clear hlen
  go_enter Tryz.func21,Tryz.ntmps21
  go_wp2_with fail
  go_loopw [5] (fun c wr=>∃ k:Nat,k≤l.length∧c = .int .i64 (k:Int)∧l.take k=m.take k∧Keep [] w wr) (fun c _=>l.length-(intOf c).toNat)
  case atStart=>exact ⟨0,Nat.zero_le _,rfl,rfl,Keep.refl _ _⟩
  case round =>
   obtain⟨k,hk,rfl,heq,hkeep⟩:=hrel
   have Heq:=jX heq
   have HKr:=jX hkeep
   clear heq hkeep
   by_cases hlt:k<l.length
   ·have hlt2:k<m.length:=by rw [← Hlen.out];exact hlt
    obtain⟨g,o,rfl,hg,hat⟩:=RIR.elem (HR.out.later HKr.out) k hlt
    obtain⟨g2,o2,rfl,hg2,hat2⟩:=RIR.elem (HS.out.later HKr.out) k hlt2
    obtain⟨i,hi⟩:∃ i,l[k]=i:=⟨_,rfl⟩
    obtain⟨j,hj⟩:∃ j,m[k]=j:=⟨_,rfl⟩
    have Hi:=jX hi
    have Hj:=jX hj
    rw [hi] at hat
    rw [hj] at hat2
    clear hi hj
    obtain⟨p,hp⟩:∃ p,o+k*20=p:=⟨_,rfl⟩
    obtain⟨q,hq⟩:∃ q,o2+k*20=q:=⟨_,rfl⟩
    rw [hp] at hat
    rw [hq] at hat2
    have HLa:=jX (hat.ldR hg)
    have HLb:=jX (hat2.ldR hg2)
    have HN:=jX (neqRaw_run i j)
    clear hat hat2
    rw [show i.v = .agg i.C from rfl] at HLa HN
    rw [show j.v = .agg j.C from rfl] at HLb HN
    generalize i.C=I at *
    generalize j.C=J at *
    by_cases hij:i=j
    ·rw [decide_eq_true hij] at HN
     have Hij:=jX hij
     clear hij
     go_wp2_with fail
     refine wp_region_keep (by kernel_rfl) (by kernel_rfl) ?_
     repeat (first
      | go_big_quiet_skip
      | (go_big_quiet_want;first
       | (refine quiet_load _ _ _ (.agg I) rfl rfl (by rintro _ ⟨m,rfl⟩;exact HLa.out m) ?_;go_simp;go_big_quiet_on)|(refine quiet_load _ _ _ (.agg J) rfl rfl (by rintro _ ⟨m,rfl⟩;exact HLb.out m) ?_;go_simp;go_big_quiet_on)|(refine quiet_bin _ _ _ _ _ _ _ (_) rfl rfl rfl eqI_g (by intro w;exact HN.out w) ?_;go_simp;go_big_quiet_on)
       | (go_big_quiet_op;first|go_big_quiet_on|go_big_quiet_call (first
        | fail))))
     refine wpQuiet_nil ?_
     rintro w1 ⟨⟨_,hk_w1⟩,rfl⟩
     clear HLa HLb HN
     have Hk1:=jX hk_w1
     clear hk_w1
     go_wp2_with fail
     go_roundw
     case rel=>exact ⟨k+1,by omega,congrArg (Value.int .i64) (by omega),by rw [List.take_succ_eq_append_getElem hlt,List.take_succ_eq_append_getElem hlt2,Heq.out,Hi.out,Hj.out,Hij.out],HKr.out.trans0 Hk1.out⟩
     case measure=>simp [intOf];omega
    rw [decide_eq_false hij] at HN
    have Hij:=jX hij
    clear hij
    go_wp2_with fail
    refine wp_region_keep (by kernel_rfl) (by kernel_rfl) ?_
    repeat (first
     | go_big_quiet_skip
     | (go_big_quiet_want;first
      | (refine quiet_load _ _ _ (.agg I) rfl rfl (by rintro _ ⟨m,rfl⟩;exact HLa.out m) ?_;go_simp;go_big_quiet_on)|(refine quiet_load _ _ _ (.agg J) rfl rfl (by rintro _ ⟨m,rfl⟩;exact HLb.out m) ?_;go_simp;go_big_quiet_on)|(refine quiet_bin _ _ _ _ _ _ _ (_) rfl rfl rfl eqI_g (by intro w;exact HN.out w) ?_;go_simp;go_big_quiet_on)
      | (go_big_quiet_op;first|go_big_quiet_on|go_big_quiet_call (first
       | fail))))
    refine wpQuiet_nil ?_
    rintro w1 ⟨⟨_,hk_w1⟩,rfl⟩
    clear HLa HLb HN
    have Hk1:=jX hk_w1
    clear hk_w1
    go_wp2_with fail
    go_ret
    have hno:l≠m:=fun e=>Hij.out (by rw [← Hi.out,← Hj.out];simp only [e])
    exact ⟨by rw [decide_eq_false hno];rfl,HKr.out.trans0 Hk1.out⟩
   obtain rfl:k=l.length:=by omega
   go_wp2_with fail
   go_ret
   have he:l=m:=by
    have:=Heq.out
    rw [List.take_length,Hlen.out,List.take_length] at this
    exact this
   exact ⟨by rw [decide_eq_true he];rfl,HKr.out⟩
 have hne:((l.length:Int) != (m.length:Int))=true:=by rw [bne_iff_ne];omega
 have hno:l≠m:=fun e=>hlen (by rw [e])
 rw [decide_eq_false hno]
 clear hno hlen
 go_enter Tryz.func21,Tryz.ntmps21
 go_wp2_with fail
 go_ret
 exact ⟨rfl,Keep.refl _ _⟩
theorem sequalR_c (l m:List RawI) (w:World) (sv tv:Value) (hr:RIR w sv l) (hs:RIR w tv m) (h9:l.length≤1000000000) (h8:m.length≤1000000000) :
  Calls Tryz.prog 82 #[sv,tv] w fun e w'=>e = .returned (.bool (decide (l=m)))∧Keep [] w w':=by
 have HR:=jX hr
 have HS:=jX hs
 obtain⟨ao,ac,rfl,_⟩:=hr.form
 obtain⟨bo,bc,rfl,_⟩:=hs.form
 clear hr hs
 by_cases hlen:l.length=m.length
 ·have hne:((l.length:Int) != (m.length:Int))=false:=by rw [hlen];simp
  have Hlen:=jX hlen
  clear hlen
  go_enter Tryz.func82,Tryz.ntmps82
  go_wp2_with fail
  go_loopw [13] (fun c wr=>∃ k:Nat,k≤l.length∧c = .int .i64 (k:Int)∧l.take k=m.take k∧Keep [] w wr) (fun c _=>l.length-(intOf c).toNat)
  case atStart=>exact ⟨0,Nat.zero_le _,rfl,rfl,Keep.refl _ _⟩
  case round =>
   obtain⟨k,hk,rfl,heq,hkeep⟩:=hrel
   have Heq:=jX heq
   have HKr:=jX hkeep
   clear heq hkeep
   by_cases hlt:k<l.length
   ·have hlt2:k<m.length:=by rw [← Hlen.out];exact hlt
    obtain⟨g,o,rfl,hg,hat⟩:=RIR.elem (HR.out.later HKr.out) k hlt
    obtain⟨g2,o2,rfl,hg2,hat2⟩:=RIR.elem (HS.out.later HKr.out) k hlt2
    obtain⟨i,hi⟩:∃ i,l[k]=i:=⟨_,rfl⟩
    obtain⟨j,hj⟩:∃ j,m[k]=j:=⟨_,rfl⟩
    have Hi:=jX hi
    have Hj:=jX hj
    rw [hi] at hat
    rw [hj] at hat2
    clear hi hj
    obtain⟨p,hp⟩:∃ p,o+k*20=p:=⟨_,rfl⟩
    obtain⟨q,hq⟩:∃ q,o2+k*20=q:=⟨_,rfl⟩
    rw [hp] at hat
    rw [hq] at hat2
    have HLa:=jX (hat.ldR hg)
    have HLb:=jX (hat2.ldR hg2)
    have HN:=jX (neqRaw_run i j)
    clear hat hat2
    rw [show i.v = .agg i.C from rfl] at HLa HN
    rw [show j.v = .agg j.C from rfl] at HLb HN
    generalize i.C=I at *
    generalize j.C=J at *
    by_cases hij:i=j
    ·rw [decide_eq_true hij] at HN
     have Hij:=jX hij
     clear hij
     go_wp2_with fail
     refine wp_region_keep (by kernel_rfl) (by kernel_rfl) ?_
     repeat (first
      | go_big_quiet_skip
      | (go_big_quiet_want;first
       | (refine quiet_load _ _ _ (.agg I) rfl rfl (by rintro _ ⟨m,rfl⟩;exact HLa.out m) ?_;go_simp;go_big_quiet_on)|(refine quiet_load _ _ _ (.agg J) rfl rfl (by rintro _ ⟨m,rfl⟩;exact HLb.out m) ?_;go_simp;go_big_quiet_on)|(refine quiet_bin _ _ _ _ _ _ _ (_) rfl rfl rfl eqI_g (by intro w;exact HN.out w) ?_;go_simp;go_big_quiet_on)
       | (go_big_quiet_op;first|go_big_quiet_on|go_big_quiet_call (first
        | fail))))
     refine wpQuiet_nil ?_
     rintro w1 ⟨⟨_,hk_w1⟩,rfl⟩
     clear HLa HLb HN
     have Hk1:=jX hk_w1
     clear hk_w1
     go_wp2_with fail
     go_roundw
     case rel=>exact ⟨k+1,by omega,congrArg (Value.int .i64) (by omega),by rw [List.take_succ_eq_append_getElem hlt,List.take_succ_eq_append_getElem hlt2,Heq.out,Hi.out,Hj.out,Hij.out],HKr.out.trans0 Hk1.out⟩
     case measure=>simp [intOf];omega
    rw [decide_eq_false hij] at HN
    have Hij:=jX hij
    clear hij
    go_wp2_with fail
    refine wp_region_keep (by kernel_rfl) (by kernel_rfl) ?_
    repeat (first
     | go_big_quiet_skip
     | (go_big_quiet_want;first
      | (refine quiet_load _ _ _ (.agg I) rfl rfl (by rintro _ ⟨m,rfl⟩;exact HLa.out m) ?_;go_simp;go_big_quiet_on)|(refine quiet_load _ _ _ (.agg J) rfl rfl (by rintro _ ⟨m,rfl⟩;exact HLb.out m) ?_;go_simp;go_big_quiet_on)|(refine quiet_bin _ _ _ _ _ _ _ (_) rfl rfl rfl eqI_g (by intro w;exact HN.out w) ?_;go_simp;go_big_quiet_on)
      | (go_big_quiet_op;first|go_big_quiet_on|go_big_quiet_call (first
       | fail))))
    refine wpQuiet_nil ?_
    rintro w1 ⟨⟨_,hk_w1⟩,rfl⟩
    clear HLa HLb HN
    have Hk1:=jX hk_w1
    clear hk_w1
    go_wp2_with fail
    go_ret
    have hno:l≠m:=fun e=>Hij.out (by rw [← Hi.out,← Hj.out];simp only [e])
    exact ⟨by rw [decide_eq_false hno];rfl,HKr.out.trans0 Hk1.out⟩
   obtain rfl:k=l.length:=by omega
   go_wp2_with fail
   go_ret
   have he:l=m:=by
    have:=Heq.out
    rw [List.take_length,Hlen.out,List.take_length] at this
    exact this
   exact ⟨by rw [decide_eq_true he];rfl,HKr.out⟩
 have hne:((l.length:Int) != (m.length:Int))=true:=by rw [bne_iff_ne];omega
 have hno:l≠m:=fun e=>hlen (by rw [e])
 rw [decide_eq_false hno]
 clear hno hlen
 go_enter Tryz.func82,Tryz.ntmps82
 go_wp2_with fail
 go_ret
 exact ⟨rfl,Keep.refl _ _⟩
theorem pequalR_c (l m:List RawI) (w:World) (sv tv:Value) (hr:RIR w sv l) (hs:RIR w tv m) (h9:l.length≤1000000000) (h8:m.length≤1000000000) :
  Calls Tryz.prog 20 #[sv,tv] w fun e w'=>e = .returned (.bool (decide (l=m)))∧Keep [] w w':=by
 have H:=jX (sequalR_c l m w sv tv hr hs h9 h8)
 obtain⟨ao,ac,rfl,_⟩:=hr.form
 obtain⟨bo,bc,rfl,_⟩:=hs.form
 clear hr hs
 generalize decide (l=m)=r at *
 go_enter Tryz.func20,Tryz.ntmps20
 go_wp2_with fail
 refine H.out.mono ?_
 rintro e w1 ⟨rfl,hk⟩
 dsimp only
 have HK:=jX hk
 clear hk H
 go_wp2_with fail
 go_ret
 exact ⟨rfl,HK.out⟩
end
section
open Classical
def RawR.sum (x:RawR):Nat:=x.a2.size+x.a4.size+x.b2.size+x.b4.size
theorem RawR.sum_sz {x:RawR} {k:Nat} (h:x.sum≤k):x.sz k:=by
 unfold RawR.sum at h
 unfold RawR.sz
 omega
def RawR.C (x:RawR):Array Value:=x.cells.toArray
theorem i64_fits {n:Int} (h0:0≤n) (h:n≤9000000000000000):IntKind.i64.wrap n=n:=IntWalk.i64_in _ (by omega)
end
section
open Classical
theorem short06_c (x:RawR) (hs:x.sz 140737488351232) (w:World):Calls Tryz.prog 16 #[x.v] w fun e w'=>e = .returned (.bool (decide (x.sum≤20)))∧Keep [] w w':=by
 obtain⟨w1,w2,w3⟩:IntKind.i64.wrap ((x.a2.size:Int)+(x.a4.size:Int))=(x.a2.size:Int)+(x.a4.size:Int)∧IntKind.i64.wrap ((x.a2.size:Int)+(x.a4.size:Int)+(x.b2.size:Int))=(x.a2.size:Int)+(x.a4.size:Int)+(x.b2.size:Int)∧IntKind.i64.wrap ((x.a2.size:Int)+(x.a4.size:Int)+(x.b2.size:Int)+(x.b4.size:Int))=(x.a2.size:Int)+(x.a4.size:Int)+(x.b2.size:Int)+(x.b4.size:Int):=by
  unfold RawR.sz at hs
  exact ⟨i64_fits (by omega) (by omega),i64_fits (by omega) (by omega),i64_fits (by omega) (by omega)⟩
 have hd:decide ((x.a2.size:Int)+(x.a4.size:Int)+(x.b2.size:Int)+(x.b4.size:Int)≤20)=decide (x.sum≤20):=by
  unfold RawR.sum
  rw [Bool.eq_iff_iff,decide_eq_true_iff,decide_eq_true_iff]
  omega
 clear hs
 unfold RawR.v
 generalize decide (x.sum≤20)=r at *
 obtain⟨a1,a2,a3,a4,b1,b2,b3,b4,n⟩:=x
 dsimp only at *
 go_enter Tryz.func16,Tryz.ntmps16
 go_upto_region 1 with (fail)
 obtain⟨W,ga,hW,ega,Bga,hga,hgW,HkW⟩:=al1h w (.cells #[.bool a1,.string a2,.bool a3,.string a4,.bool b1,.string b2,.bool b3,.string b4,.bool n] 30)
 rw [← hW]
 try rw [ega]
 clear hW ega
 have pga:=cell_of Bga.out
 go_wp2_with fail
 go_ret
 exact ⟨rfl,HkW.out⟩
end
end Go.Proofs.YtpgffjjpiafhpaaGreatDoor
