/- Parts of a proof: Th Tl Ub Layg. -/
import Derived.Shelf.SlSortCmp.WholeK
import Derived.Test.YtejegogbhpmgfaaGreatDoorG13
import Derived.Test.YtejegogbhpmgfaaGreatDoorG14
import Derived.Test.YtejegogbhpmgfaaGreatDoorProg
set_option linter.unusedVariables false
set_option linter.unusedSimpArgs false
set_option maxRecDepth 100000
set_option maxHeartbeats 8000000
namespace Go.Proofs.YtejegogbhpmgfaaGreatDoor
open Go.RowKit Tryz
theorem krcmp_c (x y:K) (w:World):Calls prog 77 #[kv x,kv y] w fun e w'=>e = .returned (.int .i64 (cmpQ x.1 y.1))∧Keep [] w w' :=
 RCompare_c x.1 y.1 ⟨x.2.2.1.mono (by decide),x.2.2.2.mono (by decide)⟩ ⟨y.2.2.1.mono (by decide),y.2.2.2.mono (by decide)⟩ w
theorem yfs (a b:Bd K) (w:World):Calls prog 105 #[bv a,bv b] w fun e w'=>e = .returned (.int .i64 (cmpB a b))∧Keep [] w w':=by
 have H1:=jX (krcmp_c a.pt b.pt);have hc:=yeW a.pt b.pt;unfold cmpB;rw [yem,yem];rw [yaI,yaI] at H1;generalize cmpQ a.pt.1 b.pt.1=n at *;generalize sgB (a.pt.1).p.num=f1 at *;generalize mgS (a.pt.1).p.num=f2 at *;generalize dnS (a.pt.1).p.den=f3 at *;generalize sgB (a.pt.1).r.num=f4 at *;generalize mgS (a.pt.1).r.num=f5 at *;generalize dnS (a.pt.1).r.den=f6 at *;generalize (a.pt.1).neg=f7 at *;generalize sgB (b.pt.1).p.num=t1 at *;generalize mgS (b.pt.1).p.num=t2 at *;generalize dnS (b.pt.1).p.den=t3 at *;generalize sgB (b.pt.1).r.num=t4 at *;generalize mgS (b.pt.1).r.num=t5 at *;generalize dnS (b.pt.1).r.den=t6 at *;generalize (b.pt.1).neg=t7 at *;generalize a.beh=o at *;generalize b.beh=c at *;rcases hc with rfl|rfl|rfl
 ·rw [if_neg (by decide)]
  go_enter func105,ntmps105
  go_upto_region 1 with (fail)
  obtain⟨W,ga,gb,hW,ega,egb,Bga,Bgb,hga,hgb,hgW,HkW⟩:=al2h w (.cells #[.bool f1,.string f2,.bool false,.string f3,.bool f4,.string f5,.bool false,.string f6,.bool f7,.bool o] 110) (.cells #[.bool t1,.string t2,.bool false,.string t3,.bool t4,.string t5,.bool false,.string t6,.bool t7,.bool c] 110);rw [← hW];try rw [egb]
  try rw [ega]
  clear hW ega egb;obtain⟨pga,fga,lga⟩:=jQ Bga;obtain⟨pgb,fgb,lgb⟩:=jQ Bgb;go_wp2_with fail;refine (H1.out _).mono ?_;rintro e w1 ⟨rfl,hk_w1⟩;dsimp only;clear pga fga lga pgb fgb lgb;replace Bga:=jH hk_w1 Bga;replace Bgb:=jH hk_w1 Bgb;replace HkW:=jX (HkW.out.tz hk_w1);clear hk_w1;obtain⟨pga,fga,lga⟩:=jQ Bga;obtain⟨pgb,fgb,lgb⟩:=jQ Bgb;go_wp2_with fail;go_ret
  exact ⟨rfl,by repeat (first|(with_reducible exact HkW.out)|(refine Keep.sP ?_ _ _ _ (by omega))|(refine Keep.aP ?_ _)|(refine Keep.dP ?_))⟩
 ·rw [if_pos rfl]
  cases o<;>cases c
  ·rw [if_pos rfl]
   go_enter func105,ntmps105
   go_upto_region 1 with (fail)
   obtain⟨W,ga,gb,hW,ega,egb,Bga,Bgb,hga,hgb,hgW,HkW⟩:=al2h w (.cells #[.bool f1,.string f2,.bool false,.string f3,.bool f4,.string f5,.bool false,.string f6,.bool f7,.bool false] 110) (.cells #[.bool t1,.string t2,.bool false,.string t3,.bool t4,.string t5,.bool false,.string t6,.bool t7,.bool false] 110);rw [← hW];try rw [egb]
   try rw [ega]
   clear hW ega egb;obtain⟨pga,fga,lga⟩:=jQ Bga;obtain⟨pgb,fgb,lgb⟩:=jQ Bgb;go_wp2_with fail;refine (H1.out _).mono ?_;rintro e w1 ⟨rfl,hk_w1⟩;dsimp only;clear pga fga lga pgb fgb lgb;replace Bga:=jH hk_w1 Bga;replace Bgb:=jH hk_w1 Bgb;replace HkW:=jX (HkW.out.tz hk_w1);clear hk_w1;obtain⟨pga,fga,lga⟩:=jQ Bga;obtain⟨pgb,fgb,lgb⟩:=jQ Bgb;go_wp2_with fail;go_ret
   exact ⟨rfl,by repeat (first|(with_reducible exact HkW.out)|(refine Keep.sP ?_ _ _ _ (by omega))|(refine Keep.aP ?_ _)|(refine Keep.dP ?_))⟩
  ·rw [if_neg (by decide),if_pos rfl]
   go_enter func105,ntmps105
   go_upto_region 1 with (fail)
   obtain⟨W,ga,gb,hW,ega,egb,Bga,Bgb,hga,hgb,hgW,HkW⟩:=al2h w (.cells #[.bool f1,.string f2,.bool false,.string f3,.bool f4,.string f5,.bool false,.string f6,.bool f7,.bool false] 110) (.cells #[.bool t1,.string t2,.bool false,.string t3,.bool t4,.string t5,.bool false,.string t6,.bool t7,.bool true] 110);rw [← hW];try rw [egb]
   try rw [ega]
   clear hW ega egb;obtain⟨pga,fga,lga⟩:=jQ Bga;obtain⟨pgb,fgb,lgb⟩:=jQ Bgb;go_wp2_with fail;refine (H1.out _).mono ?_;rintro e w1 ⟨rfl,hk_w1⟩;dsimp only;clear pga fga lga pgb fgb lgb;replace Bga:=jH hk_w1 Bga;replace Bgb:=jH hk_w1 Bgb;replace HkW:=jX (HkW.out.tz hk_w1);clear hk_w1;obtain⟨pga,fga,lga⟩:=jQ Bga;obtain⟨pgb,fgb,lgb⟩:=jQ Bgb;go_wp2_with fail;go_ret
   exact ⟨rfl,by repeat (first|(with_reducible exact HkW.out)|(refine Keep.sP ?_ _ _ _ (by omega))|(refine Keep.aP ?_ _)|(refine Keep.dP ?_))⟩
  ·rw [if_neg (by decide),if_neg (by decide)]
   go_enter func105,ntmps105
   go_upto_region 1 with (fail)
   obtain⟨W,ga,gb,hW,ega,egb,Bga,Bgb,hga,hgb,hgW,HkW⟩:=al2h w (.cells #[.bool f1,.string f2,.bool false,.string f3,.bool f4,.string f5,.bool false,.string f6,.bool f7,.bool true] 110) (.cells #[.bool t1,.string t2,.bool false,.string t3,.bool t4,.string t5,.bool false,.string t6,.bool t7,.bool false] 110);rw [← hW];try rw [egb]
   try rw [ega]
   clear hW ega egb;obtain⟨pga,fga,lga⟩:=jQ Bga;obtain⟨pgb,fgb,lgb⟩:=jQ Bgb;go_wp2_with fail;refine (H1.out _).mono ?_;rintro e w1 ⟨rfl,hk_w1⟩;dsimp only;clear pga fga lga pgb fgb lgb;replace Bga:=jH hk_w1 Bga;replace Bgb:=jH hk_w1 Bgb;replace HkW:=jX (HkW.out.tz hk_w1);clear hk_w1;obtain⟨pga,fga,lga⟩:=jQ Bga;obtain⟨pgb,fgb,lgb⟩:=jQ Bgb;go_wp2_with fail;go_ret
   exact ⟨rfl,by repeat (first|(with_reducible exact HkW.out)|(refine Keep.sP ?_ _ _ _ (by omega))|(refine Keep.aP ?_ _)|(refine Keep.dP ?_))⟩
  rw [if_pos rfl];go_enter func105,ntmps105
  go_upto_region 1 with (fail)
  obtain⟨W,ga,gb,hW,ega,egb,Bga,Bgb,hga,hgb,hgW,HkW⟩:=al2h w (.cells #[.bool f1,.string f2,.bool false,.string f3,.bool f4,.string f5,.bool false,.string f6,.bool f7,.bool true] 110) (.cells #[.bool t1,.string t2,.bool false,.string t3,.bool t4,.string t5,.bool false,.string t6,.bool t7,.bool true] 110);rw [← hW];try rw [egb]
  try rw [ega]
  clear hW ega egb;obtain⟨pga,fga,lga⟩:=jQ Bga;obtain⟨pgb,fgb,lgb⟩:=jQ Bgb;go_wp2_with fail;refine (H1.out _).mono ?_;rintro e w1 ⟨rfl,hk_w1⟩;dsimp only;clear pga fga lga pgb fgb lgb;replace Bga:=jH hk_w1 Bga;replace Bgb:=jH hk_w1 Bgb;replace HkW:=jX (HkW.out.tz hk_w1);clear hk_w1;obtain⟨pga,fga,lga⟩:=jQ Bga;obtain⟨pgb,fgb,lgb⟩:=jQ Bgb;go_wp2_with fail;go_ret
  exact ⟨rfl,by repeat (first|(with_reducible exact HkW.out)|(refine Keep.sP ?_ _ _ _ (by omega))|(refine Keep.aP ?_ _)|(refine Keep.dP ?_))⟩
 rw [if_neg (by decide)];go_enter func105,ntmps105
 go_upto_region 1 with (fail)
 obtain⟨W,ga,gb,hW,ega,egb,Bga,Bgb,hga,hgb,hgW,HkW⟩:=al2h w (.cells #[.bool f1,.string f2,.bool false,.string f3,.bool f4,.string f5,.bool false,.string f6,.bool f7,.bool o] 110) (.cells #[.bool t1,.string t2,.bool false,.string t3,.bool t4,.string t5,.bool false,.string t6,.bool t7,.bool c] 110);rw [← hW];try rw [egb]
 try rw [ega]
 clear hW ega egb;obtain⟨pga,fga,lga⟩:=jQ Bga;obtain⟨pgb,fgb,lgb⟩:=jQ Bgb;go_wp2_with fail;refine (H1.out _).mono ?_;rintro e w1 ⟨rfl,hk_w1⟩;dsimp only;clear pga fga lga pgb fgb lgb;replace Bga:=jH hk_w1 Bga;replace Bgb:=jH hk_w1 Bgb;replace HkW:=jX (HkW.out.tz hk_w1);clear hk_w1;obtain⟨pga,fga,lga⟩:=jQ Bga;obtain⟨pgb,fgb,lgb⟩:=jQ Bgb;go_wp2_with fail;go_ret
 exact ⟨rfl,by repeat (first|(with_reducible exact HkW.out)|(refine Keep.sP ?_ _ _ _ (by omega))|(refine Keep.aP ?_ _)|(refine Keep.dP ?_))⟩
theorem putAt_size:∀ (vs:List Value) (o:Nat) (cs:Array Value),(yfr cs o vs).size=cs.size
 | [],_,_=>rfl
 | v :: r,o,cs=>by unfold yfr;rw [putAt_size r];simp
theorem set_take (L:List Value) (o:Nat) (v:Value) (h:o<L.length):(L.set o v).take (o+1)=L.take o++[v]:=by
 rw [List.take_succ_eq_append_getElem (by simpa using h),List.take_set_of_le (Nat.le_refl _),List.getElem_set_self]
theorem putAt_list:∀ (vs:List Value) (o:Nat) (cs:Array Value),o+vs.length≤cs.size→(yfr cs o vs).toList=cs.toList.take o++vs++cs.toList.drop (o+vs.length)
 | [],o,cs,h=>by unfold yfr;simp
 | v :: r,o,cs,h=>by
  have ho:o<cs.toList.length:=by simp at h ⊢;omega
  unfold yfr;rw [putAt_list r (o+1) _ (by simp at h ⊢;omega),Array.toList_setIfInBounds,set_take _ _ _ ho,List.drop_set_of_lt (by omega),List.length_cons,List.append_assoc,List.append_assoc,List.append_assoc];have e:o+1+r.length=o+(r.length+1):=by omega
  rw [e];rfl
def setL (xs:List Value) (o:Nat) (vs:List Value):List Value:=xs.take o++vs++xs.drop (o+vs.length)
theorem setL_len {xs vs:List Value} {o:Nat} (h:o+vs.length≤xs.length):(setL xs o vs).length=xs.length:=by
 unfold setL;rw [List.length_append,List.length_append,List.length_take,List.length_drop];omega
theorem ybB {w:World} {e:TypeId} {k n g c:Nat} {xs vs:List Value} {o:Nat} (h:w.ownsRow 0 e k (.slice (some ⟨g,0,none⟩) n c) n xs) (ho:o+vs.length≤n*k) :
  (w.setCells g o vs).ownsRow 0 e k (.slice (some ⟨g,0,none⟩) n c) n (setL xs o vs)∧Keep [g] w (w.setCells g o vs):=by
 have hx:=h.1;rcases h.2 with ⟨hv,_⟩|⟨g',cap,cur,hv,hb,hg,hnc,hcm,hcs,htake⟩
 ·cases hv
 injection hv with e1 e2 e3;injection e1 with e1;injection e1 with e1;subst e1 e3;obtain⟨h1,h2⟩:=ybv vs o cur w hg;have hle:n*k≤c*k:=Nat.mul_le_mul_right _ hnc;refine ⟨⟨by rw [setL_len (by omega)];exact hx,.inr ⟨g,c,_,rfl,hb,h1,hnc,hcm,by rw [putAt_size];exact hcs,?_⟩⟩,h2⟩;rw [putAt_list vs o cur (by omega),← htake];have hl:cur.toList.length=c*k:=by simpa using hcs
 unfold setL;rw [List.take_append,List.take_append,List.take_of_length_le (l:=cur.toList.take o) (by rw [List.length_take];omega),List.take_of_length_le (l:=vs) (by rw [List.length_take];omega),List.take_take,Nat.min_eq_left (by omega),List.drop_take,List.length_append,List.length_take,Nat.min_eq_left (by omega)]
theorem flat_last (l:List (Iv K)) (i:Iv K) (t:K) (b:Bool):setL (setL ((l++[i]).flatMap fun i=>icells i) (l.length*20+9) (kcells t.1)) (l.length*20+19) [.bool b]=(l++[(⟨i.f,⟨t,!b⟩⟩:Iv K)]).flatMap fun i=>icells i:=by
 have hl:(l.flatMap fun i=>icells i).length=l.length*20:=ybz (fun i:Iv K=>icells i) ycY l;rw [List.flatMap_append,List.flatMap_append];generalize (l.flatMap fun i=>icells i)=F at *;have e1:([i].flatMap fun i=>icells i)=icells i:=by simp
 have e2:([(⟨i.f,⟨t,!b⟩⟩:Iv K)].flatMap fun i=>icells i)=icells ⟨i.f,⟨t,!b⟩⟩:=by simp
 rw [e1,e2,← hl]
 have step:∀ (G vs:List Value) (j:Nat),setL (F++G) (F.length+j) vs=F++setL G j vs:=fun G vs j=>by
  unfold setL;rw [List.take_length_add_append,Nat.add_assoc,List.drop_length_add_append,List.append_assoc,List.append_assoc,List.append_assoc]
 rw [step,step];congr 1
 cases b<;>rfl
theorem OI_.setl {w0 w:World} {g c:Nat} {l:List (Iv K)} {i:Iv K} (h:OI_ w0 w (.slice (some ⟨g,0,none⟩) (l.length+1) c) (l++[i])) (t:K) (b:Bool) :
  OI_ w0 ((w.setCells g (l.length*20+9) (kcells t.1)).setCells g (l.length*20+19) [.bool b]) (.slice (some ⟨g,0,none⟩) (l.length+1) c) (l++[⟨i.f,⟨t,!b⟩⟩]):=by
 have hr:=h.row;rw [List.length_append,List.length_singleton] at hr;obtain⟨h1,k1⟩:=ybB hr (o:=l.length*20+9) (vs:=kcells t.1) (by rw [yav];omega);obtain⟨h2,k2⟩:=ybB h1 (o:=l.length*20+19) (vs:=[.bool b]) (by simp;omega);rw [flat_last] at h2;have hg:=h.base g rfl;refine ⟨by rw [List.length_append,List.length_singleton];exact h2,h.base,(h.keep.trans k1 (by simp;exact hg)).trans k2 (by simp;exact hg)⟩
theorem yeV {w:World} {e:TypeId} {k n g c:Nat} {xs:List Value} {o m:Nat} (h:w.ownsRow 0 e k (.slice (some ⟨g,0,none⟩) n c) n xs) (ho:o+m≤n*k):w.there g o m:=by
 rcases h.2 with ⟨hv,_⟩|⟨g',cap,cur,hv,hb,hg,hnc,hcm,hcs,htake⟩
 ·cases hv
 injection hv with e1 e2 e3;injection e1 with e1;injection e1 with e1;subst e1 e3;have hle:n*k≤c*k:=Nat.mul_le_mul_right _ hnc;exact ydu hg o m (by omega)
theorem ybZ {P:Program} {ops:Array Oper} {rest:List Oper} {o:Oper} {a:Act} {w:World} {Q:Exit→Act→World→Prop} (hgd:o.guard=none) (ty:TypeId) (x y:Operand) (ho:o.op = .store ty x y)
  (b i:Nat) (v:Value) (hx:a.eval x = .pointer (some ⟨b,i,none⟩)) (hy:a.eval y=v) (h1:v.oneCell'=true) (ht:w.there b i 1) (hi:(P.info? ty).map (·.size)=some 1)
  (h:∀ K:Act→World→Prop,(∀ a w,wpList P ops Q rest a w→K a w)→K (a.put o.dst undef) (w.setCells b i [v])):wpList P ops Q (o :: rest) a w :=
 wpList_plain hgd fun K hK=>by
  have hs:(storeVar ty ⟨b,i,none⟩ v).run P w = .ok () (w.setCells b i [v]):=by
   have:=run_storeCells_cells (P:=P) b i [v] 0 w (fun j hj=>by simpa using (ht j (by simpa using hj)).1) (fun j hj=>by simpa using (ht j (by simpa using hj)).2) (fun u hu=>by simp at hu;subst hu;exact h1);have hc:v.cells = #[v]:=by cases v<;>first|rfl|cases h1
   cases hq:P.info? ty with
   | none=>simp [hq] at hi
   | some i =>
    have hs:i.size=1:=by simpa [hq] using hi
    simp only [Nat.add_zero] at this;simp [storeVar,sizeOf,typeInfo,hq,hc,hs,this]
  unfold Oper.wp execOp;simp only [ho,hx,hy,Instr.storeAt,Instr.sureAddr,Sem.run_bind,Sem.run_pure,Result.andThen_ok,hs];exact h K hK
theorem OI_.last {w0 w:World} {ov:Option Addr} {c:Nat} {l:List (Iv K)} {i:Iv K} (h:OI_ w0 w (.slice ov (l.length+1) c) (l++[i])) :
  ∃ g,ov=some ⟨g,0,none⟩∧g<w.heap.size∧w0.heap.size≤g∧w.there g (l.length*20+9) 9∧∀ t:K,(w.setCells g (l.length*20+9) (kcells t.1)).there g (l.length*20+19) 1:=by
 have hr:=h.row;rw [List.length_append,List.length_singleton] at hr;have hb:=h.base;rcases hr.2 with ⟨hv,_⟩|⟨g,cap,cur,hv,_,hg,_⟩
 ·cases hv
 injection hv with e1 e2 e3;subst e1 e3;refine ⟨g,rfl,yab hg,hb g rfl,yeV hr (by omega),fun t=>?_⟩;obtain⟨h1,k1⟩:=ybB hr (o:=l.length*20+9) (vs:=kcells t.1) (by rw [yav];omega);exact yeV h1 (by omega)
def evcells (e:Ev K):List Value:=bcells e.at_++[.int .i64 e.x,.int .i64 e.y]
theorem ydr (e:Ev K):(evcells e).length=12:=rfl
theorem yfu (b:Bd K):∀ v∈bcells b,v.oneCell'=true:=by
 intro v hv;unfold bcells at hv;rcases List.mem_append.1 hv with hv|hv
 ·exact yaS _ v hv
 simp only [List.mem_cons,List.not_mem_nil,or_false] at hv;subst hv;rfl
theorem ydg (e:Ev K):∀ v∈evcells e,v.oneCell'=true:=by
 intro v hv;unfold evcells at hv;rcases List.mem_append.1 hv with hv|hv
 ·exact yfu _ v hv
 simp only [List.mem_cons,List.not_mem_nil,or_false] at hv;rcases hv with rfl|rfl<;>rfl
def eC (e:Ev K):Array Value:=(evcells e).toArray
def evv (e:Ev K):Value:=.agg (eC e)
theorem infoEv:∃ ie,prog.info? 146=some ie∧ie.size=12:=by
 have h:(prog.info? 146).map (·.size)=some 12:=by kernel_rfl
 cases hi:prog.info? 146 with
 | none=>rw [hi] at h;cases h
 | some ie=>rw [hi] at h;exact ⟨ie,rfl,by simpa using h⟩
theorem infoBd:∃ ie,prog.info? 110=some ie∧ie.size=10:=by
 have h:(prog.info? 110).map (·.size)=some 10:=by kernel_rfl
 cases hi:prog.info? 110 with
 | none=>rw [hi] at h;cases h
 | some ie=>rw [hi] at h;exact ⟨ie,rfl,by simpa using h⟩
theorem ycS (w:World) (b o:Nat) (x:Bd K) (hc:∀ k v,(bcells x)[k]? = some v→w.cell? ⟨b,o+k,none⟩=some v):(loadVar 110 ⟨b,o,none⟩).run prog w = .ok (bv x) w:=by
 obtain⟨ie,hie,hs⟩:=infoBd;exact Go.Lib.rl_loadVar_cells 110 ie hie isAgg110 b o (bcells x) (by rw [hs];rfl) w hc
theorem yhS (w:World) (b o:Nat) (x:Ev K) (hc:∀ k v,(evcells x)[k]? = some v→w.cell? ⟨b,o+k,none⟩=some v):(loadVar 146 ⟨b,o,none⟩).run prog w = .ok (evv x) w:=by
 obtain⟨ie,hie,hs⟩:=infoEv;exact Go.Lib.rl_loadVar_cells 146 ie hie isAgg146 b o (evcells x) (by rw [hs];rfl) w hc
def EvAt (w:World) (b o:Nat) (x:Ev K):Prop:=∀ k v,(evcells x)[k]? = some v→w.cell? ⟨b,o+k,none⟩=some v
def BAt (w:World) (b o:Nat) (x:Bd K):Prop:=∀ k v,(bcells x)[k]? = some v→w.cell? ⟨b,o+k,none⟩=some v
theorem EvAt.bd {w:World} {b o:Nat} {x:Ev K} (h:EvAt w b o x):BAt w b o x.at_:=fun k v hk=>by
 refine h k v ?_;unfold evcells;rw [List.getElem?_append_left (List.getElem?_eq_some_iff.1 hk).1];exact hk
theorem EvAt.x {w:World} {b o:Nat} {x:Ev K} (h:EvAt w b o x):w.cell? ⟨b,o+10,none⟩=some (.int .i64 x.x):=h 10 _ rfl
theorem EvAt.y {w:World} {b o:Nat} {x:Ev K} (h:EvAt w b o x):w.cell? ⟨b,o+11,none⟩=some (.int .i64 x.y):=h 11 _ rfl
theorem EvAt.keep {w w':World} {b o:Nat} {x:Ev K} (h:EvAt w b o x) (hb:w'.heap[b]? = w.heap[b]?):EvAt w' b o x:=fun k v hk=>by
 rw [World.cell?_of_block hb];exact h k v hk
theorem BAt.keep {w w':World} {b o:Nat} {x:Bd K} (h:BAt w b o x) (hb:w'.heap[b]? = w.heap[b]?):BAt w' b o x:=fun k v hk=>by
 rw [World.cell?_of_block hb];exact h k v hk
theorem ybI {w:World} {g:Nat} {x:Ev K} {t:TypeId} (h:w.heap[g]? = some (.cells (eC x) t)):EvAt w g 0 x:=fun k v hk=>by
 rw [Nat.zero_add,yaa h];exact (List.getElem?_toArray ..).trans hk
theorem bAt_box {w:World} {g:Nat} {x:Bd K} {t:TypeId} (h:w.heap[g]? = some (.cells (bC x) t)):BAt w g 0 x:=fun k v hk=>by
 rw [Nat.zero_add,yaa h];exact (List.getElem?_toArray ..).trans hk
abbrev EvR:=RowE (fun e:Ev K=>evcells e)
abbrev OV_:=OE (fun e:Ev K=>evcells e) 146 12
theorem EvR.elem {w:World} {a:Option Addr} {n c:Nat} {l:List (Ev K)} (h:EvR w (.slice a n c) l) (i:Nat) (hi:i<l.length):∃ g o,a=some ⟨g,o,none⟩∧g<w.heap.size∧EvAt w g (o+i*12) l[i]:=RowE.elem ydr h i hi
theorem yhR (f1 f4 f7 o:Bool) (f2 f3 f5 f6:ByteArray):prog.built 146 [(0,.agg #[.bool f1,.string f2,.bool false,.string f3,.bool f4,.string f5,.bool false,.string f6,.bool f7,.bool o])]=some #[.bool f1,.string f2,.bool false,.string f3,.bool f4,.string f5,.bool false,.string f6,.bool f7,.bool o,.int .i64 0,.int .i64 0]:=by kernel_rfl
theorem yec (b:Bd K):prog.built 146 [(0,bv b)]=some (eC ⟨b,0,0⟩):=yhR _ _ _ _ _ _ _ _
theorem infoEvB:(prog.info? 146).map (fun i=>(i.zero.map Value.cells,i.size,i.bytes))=some (some #[.bool false,.string ⟨#[]⟩,.bool false,.string ⟨#[]⟩,.bool false,.string ⟨#[]⟩,.bool false,.string ⟨#[]⟩,.bool false,.bool false,.int .i64 0,.int .i64 0],12,128):=by kernel_rfl
theorem ev_info:∃ i z,prog.info? 146=some i∧i.zero=some z∧i.size=12∧i.bytes=128∧z.cells = #[.bool false,.string ⟨#[]⟩,.bool false,.string ⟨#[]⟩,.bool false,.string ⟨#[]⟩,.bool false,.string ⟨#[]⟩,.bool false,.bool false,.int .i64 0,.int .i64 0]:=by
 have h:=infoEvB;cases hi:prog.info? 146 with
 | none=>rw [hi] at h;cases h
 | some i =>
  rw [hi] at h;simp only [Option.map_some,Option.some.injEq,Prod.mk.injEq] at h;obtain⟨h1,h2,h3⟩:=h;cases hz:i.zero with
  | none=>rw [hz] at h1;cases h1
  | some z =>
   rw [hz] at h1;injection h1 with h1;exact ⟨i,z,rfl,hz,h2,h3,h1⟩
theorem fill_ev2 (b1 b4 b7 b8 d1 d4 d7 d8:Bool) (s2 s3 s5 s6 t2 t3 t5 t6:ByteArray) (x y u v:Int):Instr.fill (fun i=>some (i*12,12)) ((Array.range (2*12)).map ((#[.bool false,.string ⟨#[]⟩,.bool false,.string ⟨#[]⟩,.bool false,.string ⟨#[]⟩,.bool false,.string ⟨#[]⟩,.bool false,.bool false,.int .i64 0,.int .i64 0]:Array Value)[· % (#[.bool false,.string ⟨#[]⟩,.bool false,.string ⟨#[]⟩,.bool false,.string ⟨#[]⟩,.bool false,.string ⟨#[]⟩,.bool false,.bool false,.int .i64 0,.int .i64 0]:Array Value).size]!))
  #[(0, Value.agg #[.bool b1, .string s2, .bool false, .string s3, .bool b4, .string s5, .bool false, .string s6, .bool b7, .bool b8, .int .i64 x, .int .i64 y]), (1, Value.agg #[.bool d1, .string t2, .bool false, .string t3, .bool d4, .string t5, .bool false, .string t6, .bool d7, .bool d8, .int .i64 u, .int .i64 v])].toList = some #[.bool b1, .string s2, .bool false, .string s3, .bool b4, .string s5, .bool false, .string s6, .bool b7, .bool b8, .int .i64 x, .int .i64 y, .bool d1, .string t2, .bool false, .string t3, .bool d4, .string t5, .bool false, .string t6, .bool d7, .bool d8, .int .i64 u, .int .i64 v] := by kernel_rfl
theorem yiC (e:Ev K):evv e = .agg #[.bool (sgB e.at_.pt.1.p.num),.string (mgS e.at_.pt.1.p.num),.bool false,.string (dnS e.at_.pt.1.p.den),.bool (sgB e.at_.pt.1.r.num),.string (mgS e.at_.pt.1.r.num),.bool false,.string (dnS e.at_.pt.1.r.den),.bool e.at_.pt.1.neg,.bool e.at_.beh,.int .i64 e.x,.int .i64 e.y]:=rfl
theorem build2_e (x y:Ev K) (w:World):(Instr.buildSlice 143 2 #[(0,evv x),(1,evv y)]).run prog w = .ok (.slice (some ⟨w.heap.size,0,none⟩) 2 2) (w.alloc (.cells (evcells x++evcells y).toArray 146)):=by
 obtain⟨i,z,hi,hz,hs,hb,hzc⟩:=ev_info;refine run_buildSlice (P:=prog) w 143 146 2 _ _ i z underlying143 hi hz (by rw [hs];decide) (by rw [hs];decide) ?_;rw [hs,hzc,yiC,yiC];exact fill_ev2 _ _ _ _ _ _ _ _ _ _ _ _ _ _ _ _ _ _ _ _
theorem EvR.pair (x y:Ev K) (w:World):∃ u g,w.alloc (.cells (evcells x++evcells y).toArray 146)=u∧w.heap.size=g∧u.heap.size=g+1∧Keep [] w u∧EvR u (.slice (some ⟨g,0,none⟩) 2 2) [x,y]:=by
 refine ⟨_,_,rfl,rfl,by simp,Keep.alloc [] w _,.inr ⟨w.heap.size,0,2,rfl,Nat.le_refl _,by simp,fun i v hv=>?_⟩⟩;rw [Nat.zero_add,yaa (World.alloc_heap_new w _)];exact (List.getElem?_toArray ..).trans (by simpa using hv)
theorem EvR.app {ty:TypeId} {w0 w:World} {v y:Value} {l m:List (Ev K)} (h:OV_ w0 w v l) (hv:v.ownBlock≠none∨0<m.length) (hy:EvR w y m) (hb:l.length+m.length≤1000000000) :
  ∃ v' w',(Builtin.append_ #[143,143] ty #[v,y]).run prog w = .ok v' w'∧OV_ w0 w' v' (l++m)∧v'.ownBlock≠none∧∀ F,(∀ g,v.ownBlock=some g→g∈F)→Keep F w w':=by
 obtain⟨i,z,hi,hz,hs,hbt,hzc⟩:=ev_info;exact OE.app (P:=prog) (bytes:=128) underlying143 hi hz hs hbt (by rw [hzc];rfl) (by decide) ydr ydg h hv hy (by unfold maxLen;omega) (by omega)
theorem yhB (x:Ev K):(prog.info? 146).map (·.size)=some (eC x).size:=by
 obtain⟨i,z,hi,hz,hs,hb,hzc⟩:=ev_info;rw [hi];exact congrArg some hs
theorem bd_size (x:Bd K):(prog.info? 110).map (·.size)=some (bC x).size:=by
 obtain⟨ie,hie,hs⟩:=infoBd;rw [hie];exact congrArg some hs
theorem yhO (x:Ev K):(eC x).all (·.oneCell')=true:=all_oneCell_toArray (ydg x)
theorem bd_ones (x:Bd K):(bC x).all (·.oneCell')=true:=all_oneCell_toArray (yfu x)
theorem put_ev (b:Bd K) (k:Nat) (hk:k<2) (n:Int):yfr (eC ⟨b,0,0⟩) (10+k) [.int .i64 n]=eC ⟨b,if k=0 then n else 0,if k=0 then 0 else n⟩:=by
 rcases k with _|_|k
 ·rfl
 ·rfl
 omega
theorem evcmp_c (x y:Ev K) (w:World):Calls prog 145 #[.agg (eC x),.agg (eC y)] w fun e w'=>e = .returned (.int .i64 (cmpB x.at_ y.at_))∧Keep [] w w':=by
 have HX:=jX (fun w g (h:w.heap[g]? = some (.cells (eC x) 146))=>ycS w g 0 x.at_ (ybI h).bd);have HY:=jX (fun w g (h:w.heap[g]? = some (.cells (eC y) 146))=>ycS w g 0 y.at_ (ybI h).bd);have HC:=jX (yfs x.at_ y.at_);generalize eC x=X at *;generalize eC y=Y at *;go_enter func145,ntmps145
 go_upto_region 1 with (fail)
 obtain⟨W,ga,gb,hW,ega,egb,Bga,Bgb,hga,hgb,hgW,HkW⟩:=al2h w (.cells X 146) (.cells Y 146);rw [← hW];try rw [egb]
 try rw [ega]
 clear hW ega egb;have La:=HX.out _ _ Bga.out;have Lb:=HY.out _ _ Bgb.out;refine wp_region_lit ?_;refine' yad (v:=_) (by rfl) (?ha) (fun K hK=>?ka)
 case ha=>(go_simp;try rfl)
 go_simp;refine hK _ _ ?_;clear hK K;refine yad (v:=bv x.at_) (by rfl) (yak _ _ ⟨ga,0,none⟩ _ rfl rfl La) (fun K hK=>?_);go_simp;refine hK _ _ ?_;clear hK K;refine' yad (v:=_) (by rfl) (?hb) (fun K hK=>?kb)
 case hb=>(go_simp;try rfl)
 go_simp;refine hK _ _ ?_;clear hK K;refine yad (v:=bv y.at_) (by rfl) (yak _ _ ⟨gb,0,none⟩ _ rfl rfl Lb) (fun K hK=>?_);go_simp;refine hK _ _ ?_;clear hK K;refine wpList_plain (by rfl) (fun K hK=>?_);refine yae 105 #[bv x.at_,bv y.at_] (by go_simp) ?_;refine (HC.out _).mono ?_;rintro e w5 ⟨rfl,hk5⟩;refine ⟨_,rfl,?_⟩;go_simp;refine hK _ _ ?_;clear hK K La Lb;have HkZ:=jX (HkW.out.tz hk5);go_wp2_with fail;go_ret
 exact ⟨rfl,HkZ.out⟩
end Go.Proofs.YtejegogbhpmgfaaGreatDoor
namespace Go.Proofs
open Go.RowKit
section
open Go.Shelf
def Tryz.sortEv_ren:Go.Shelf.Ren:=⟨fun|6=>144|15=>115|14=>175|28=>155|29=>156|20=>196|21=>197|22=>198|23=>199|24=>200|25=>201|26=>202|27=>203|46=>216|47=>177|48=>178|49=>217|50=>218|57=>229|n=>n,fun|22=>143|24=>146|25=>148|3=>3|39=>119|0=>0|53=>159|55=>161|4=>4|46=>152|45=>151|50=>156|5=>5|9=>9|66=>176|70=>180|76=>200|77=>201|n=>n,fun|n=>n⟩
theorem Tryz.sortEv:Go.Proofs.SlLaysF0.n6 Tryz.prog Tryz.sortEv_ren:={
 mixed:=by kernel_rfl
 f6:=⟨Tryz.f144.name,by decide,Tryz.func144.trans (congrArg some (by kernel_rfl))⟩
 f14:=⟨Tryz.f175.name,by decide,Tryz.func175.trans (congrArg some (by kernel_rfl))⟩
 f15:=Tryz.func115.trans (congrArg some (by kernel_rfl))
 f20:=⟨Tryz.f196.name,by decide,Tryz.func196.trans (congrArg some (by kernel_rfl))⟩
 f21:=⟨Tryz.f197.name,by decide,Tryz.func197.trans (congrArg some (by kernel_rfl))⟩
 f22:=⟨Tryz.f198.name,by decide,Tryz.func198.trans (congrArg some (by kernel_rfl))⟩
 f23:=⟨Tryz.f199.name,by decide,Tryz.func199.trans (congrArg some (by kernel_rfl))⟩
 f24:=⟨Tryz.f200.name,by decide,Tryz.func200.trans (congrArg some (by kernel_rfl))⟩
 f25:=⟨Tryz.f201.name,by decide,Tryz.func201.trans (congrArg some (by kernel_rfl))⟩
 f26:=⟨Tryz.f202.name,by decide,Tryz.func202.trans (congrArg some (by kernel_rfl))⟩
 f27:=⟨Tryz.f203.name,by decide,Tryz.func203.trans (congrArg some (by kernel_rfl))⟩
 f28:=Tryz.func155.trans (congrArg some (by kernel_rfl))
 f29:=Tryz.func156.trans (congrArg some (by kernel_rfl))
 f46:=⟨Tryz.f216.name,by decide,Tryz.func216.trans (congrArg some (by kernel_rfl))⟩
 f47:=Tryz.func177.trans (congrArg some (by kernel_rfl))
 f48:=Tryz.func178.trans (congrArg some (by kernel_rfl))
 f49:=⟨Tryz.f217.name,by decide,Tryz.func217.trans (congrArg some (by kernel_rfl))⟩
 f50:=⟨Tryz.f218.name,by decide,Tryz.func218.trans (congrArg some (by kernel_rfl))⟩
 f57:=⟨Tryz.f229.name,by decide,Tryz.func229.trans (congrArg some (by kernel_rfl))⟩
 t0:=Tryz.underlying0
 a0:=Tryz.isAgg0
 z0:=Tryz.sizeOf0
 v0:=Tryz.zeroValue0
 t3:=Tryz.underlying3
 a3:=Tryz.isAgg3
 z3:=Tryz.sizeOf3
 v3:=Tryz.zeroValue3
 t4:=Tryz.underlying4
 a4:=Tryz.isAgg4
 z4:=Tryz.sizeOf4
 v4:=Tryz.zeroValue4
 t5:=Tryz.underlying5
 a5:=Tryz.isAgg5
 z5:=Tryz.sizeOf5
 v5:=Tryz.zeroValue5
 t9:=Tryz.underlying9
 a9:=Tryz.isAgg9
 z9:=Tryz.sizeOf9
 v9:=Tryz.zeroValue9
 t22:=Tryz.underlying143
 a22:=Tryz.isAgg143
 z22:=Tryz.sizeOf143
 v22:=Tryz.zeroValue143
 t25:=Tryz.underlying148
 a25:=Tryz.isAgg148
 z25:=Tryz.sizeOf148
 v25:=Tryz.zeroValue148
 t39:=Tryz.underlying119
 a39:=Tryz.isAgg119
 z39:=Tryz.sizeOf119
 v39:=Tryz.zeroValue119
 t45:=Tryz.underlying151
 a45:=Tryz.isAgg151
 z45:=Tryz.sizeOf151
 v45:=Tryz.zeroValue151
 t46:=Tryz.underlying152
 a46:=Tryz.isAgg152
 z46:=Tryz.sizeOf152
 v46:=Tryz.zeroValue152
 t50:=Tryz.underlying156
 a50:=Tryz.isAgg156
 z50:=Tryz.sizeOf156
 v50:=Tryz.zeroValue156
 t53:=Tryz.underlying159
 a53:=Tryz.isAgg159
 z53:=Tryz.sizeOf159
 v53:=Tryz.zeroValue159
 t55:=Tryz.underlying161
 a55:=Tryz.isAgg161
 z55:=Tryz.sizeOf161
 v55:=Tryz.zeroValue161
 t66:=Tryz.underlying176
 a66:=Tryz.isAgg176
 z66:=Tryz.sizeOf176
 v66:=Tryz.zeroValue176
 t70:=Tryz.underlying180
 a70:=Tryz.isAgg180
 z70:=Tryz.sizeOf180
 v70:=Tryz.zeroValue180
 t76:=Tryz.underlying200
 a76:=Tryz.isAgg200
 z76:=Tryz.sizeOf200
 v76:=Tryz.zeroValue200
 t77:=Tryz.underlying201
 a77:=Tryz.isAgg201
 z77:=Tryz.sizeOf201
 v77:=Tryz.zeroValue201 }
def Tryz.sortReal_ren:Go.Shelf.Ren:=⟨fun|6=>76|15=>115|14=>114|28=>155|29=>156|20=>147|21=>148|22=>149|23=>150|24=>151|25=>152|26=>153|27=>154|46=>176|47=>177|48=>178|49=>179|50=>180|57=>204|n=>n,fun|22=>56|24=>36|25=>58|3=>3|39=>119|0=>0|53=>159|55=>161|4=>4|46=>152|45=>151|50=>156|5=>5|9=>9|66=>176|70=>180|76=>200|77=>201|n=>n,fun|n=>n⟩
theorem Tryz.sortReal:Go.Proofs.SlLaysF0.n6 Tryz.prog Tryz.sortReal_ren:={
 mixed:=by kernel_rfl
 f6:=⟨Tryz.f76.name,by decide,Tryz.func76.trans (congrArg some (by kernel_rfl))⟩
 f14:=⟨Tryz.f114.name,by decide,Tryz.func114.trans (congrArg some (by kernel_rfl))⟩
 f15:=Tryz.func115.trans (congrArg some (by kernel_rfl))
 f20:=⟨Tryz.f147.name,by decide,Tryz.func147.trans (congrArg some (by kernel_rfl))⟩
 f21:=⟨Tryz.f148.name,by decide,Tryz.func148.trans (congrArg some (by kernel_rfl))⟩
 f22:=⟨Tryz.f149.name,by decide,Tryz.func149.trans (congrArg some (by kernel_rfl))⟩
 f23:=⟨Tryz.f150.name,by decide,Tryz.func150.trans (congrArg some (by kernel_rfl))⟩
 f24:=⟨Tryz.f151.name,by decide,Tryz.func151.trans (congrArg some (by kernel_rfl))⟩
 f25:=⟨Tryz.f152.name,by decide,Tryz.func152.trans (congrArg some (by kernel_rfl))⟩
 f26:=⟨Tryz.f153.name,by decide,Tryz.func153.trans (congrArg some (by kernel_rfl))⟩
 f27:=⟨Tryz.f154.name,by decide,Tryz.func154.trans (congrArg some (by kernel_rfl))⟩
 f28:=Tryz.func155.trans (congrArg some (by kernel_rfl))
 f29:=Tryz.func156.trans (congrArg some (by kernel_rfl))
 f46:=⟨Tryz.f176.name,by decide,Tryz.func176.trans (congrArg some (by kernel_rfl))⟩
 f47:=Tryz.func177.trans (congrArg some (by kernel_rfl))
 f48:=Tryz.func178.trans (congrArg some (by kernel_rfl))
 f49:=⟨Tryz.f179.name,by decide,Tryz.func179.trans (congrArg some (by kernel_rfl))⟩
 f50:=⟨Tryz.f180.name,by decide,Tryz.func180.trans (congrArg some (by kernel_rfl))⟩
 f57:=⟨Tryz.f204.name,by decide,Tryz.func204.trans (congrArg some (by kernel_rfl))⟩
 t0:=Tryz.underlying0
 a0:=Tryz.isAgg0
 z0:=Tryz.sizeOf0
 v0:=Tryz.zeroValue0
 t3:=Tryz.underlying3
 a3:=Tryz.isAgg3
 z3:=Tryz.sizeOf3
 v3:=Tryz.zeroValue3
 t4:=Tryz.underlying4
 a4:=Tryz.isAgg4
 z4:=Tryz.sizeOf4
 v4:=Tryz.zeroValue4
 t5:=Tryz.underlying5
 a5:=Tryz.isAgg5
 z5:=Tryz.sizeOf5
 v5:=Tryz.zeroValue5
 t9:=Tryz.underlying9
 a9:=Tryz.isAgg9
 z9:=Tryz.sizeOf9
 v9:=Tryz.zeroValue9
 t22:=Tryz.underlying56
 a22:=Tryz.isAgg56
 z22:=Tryz.sizeOf56
 v22:=Tryz.zeroValue56
 t25:=Tryz.underlying58
 a25:=Tryz.isAgg58
 z25:=Tryz.sizeOf58
 v25:=Tryz.zeroValue58
 t39:=Tryz.underlying119
 a39:=Tryz.isAgg119
 z39:=Tryz.sizeOf119
 v39:=Tryz.zeroValue119
 t45:=Tryz.underlying151
 a45:=Tryz.isAgg151
 z45:=Tryz.sizeOf151
 v45:=Tryz.zeroValue151
 t46:=Tryz.underlying152
 a46:=Tryz.isAgg152
 z46:=Tryz.sizeOf152
 v46:=Tryz.zeroValue152
 t50:=Tryz.underlying156
 a50:=Tryz.isAgg156
 z50:=Tryz.sizeOf156
 v50:=Tryz.zeroValue156
 t53:=Tryz.underlying159
 a53:=Tryz.isAgg159
 z53:=Tryz.sizeOf159
 v53:=Tryz.zeroValue159
 t55:=Tryz.underlying161
 a55:=Tryz.isAgg161
 z55:=Tryz.sizeOf161
 v55:=Tryz.zeroValue161
 t66:=Tryz.underlying176
 a66:=Tryz.isAgg176
 z66:=Tryz.sizeOf176
 v66:=Tryz.zeroValue176
 t70:=Tryz.underlying180
 a70:=Tryz.isAgg180
 z70:=Tryz.sizeOf180
 v70:=Tryz.zeroValue180
 t76:=Tryz.underlying200
 a76:=Tryz.isAgg200
 z76:=Tryz.sizeOf200
 v76:=Tryz.zeroValue200
 t77:=Tryz.underlying201
 a77:=Tryz.isAgg201
 z77:=Tryz.sizeOf201
 v77:=Tryz.zeroValue201 }
end
end Go.Proofs
