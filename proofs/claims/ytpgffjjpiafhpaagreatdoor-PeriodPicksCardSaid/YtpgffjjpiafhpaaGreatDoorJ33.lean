/- Parts of a proof: Qf Ba Bb. -/
import Derived.Test.YtpgffjjpiafhpaaGreatDoorJ32
import Derived.Test.YtpgffjjpiafhpaaGreatDoorJ23
import Derived.Test.YtpgffjjpiafhpaaGreatDoorJ31
import Derived.Test.YtpgffjjpiafhpaaGreatDoorJ17
import Derived.Test.YtpgffjjpiafhpaaGreatDoorJ30
import Derived.Test.YtpgffjjpiafhpaaGreatDoorJ01
set_option linter.unusedVariables false
set_option linter.unusedSimpArgs false
set_option maxRecDepth 100000
set_option maxHeartbeats 8000000
namespace Go.Proofs.YtpgffjjpiafhpaaGreatDoor
open Go.RowKit Tryz
section
variable {P:Program} {ops:Array Oper} {md:Region.Mode} {Q:Exit→Act→World→Prop} {V w:World} {n f:Nat} {L:Array Bool→Act→World→Prop} {listed:Array Bool} {a:Act} {o:Oper} {v:Value} {S:World→Prop} {t:TypeId} {x:Operand} {args:Array Operand} {ts:Array TypeId} {rest:List Oper}
theorem bV (i:Nat) (hS:Bl V w) (h2:Fn (fun a=>ycw P md ops Q (fun u=>Bl V u) n L f (listed.setIfInBounds i true) a w) () (a.put o.dst v))
  (ho:ops[i]? = some o:=by rfl) (h1:∀ w,Bl V w→(execOp a.eval o).run P w = .ok (.value v) w:=by (intro w hw;go_simp;try rfl)) (hi:i<n:=by decide) (hf:Region.free md ops listed i=true:=by kernel_rfl) (hr:(Region.ready md ops listed).contains i=true:=by kernel_rfl) (hg:Region.wanted o (yielded ops a.tmps)=true:=by rfl):ycw P md ops Q (fun u=>Bl V u) n L (f+1) listed a w :=
 ygx i ho hi hf hr hg hS (fun _ _ h k=>h.trans k) h1 (fK h2)
theorem bX (i:Nat) (ad:Addr) (hS:Bl V w) (h:∀ w,Bl V w→(loadVar t ad).run P w = .ok v w) (h2:Fn (fun a=>ycw P md ops Q (fun u=>Bl V u) n L f (listed.setIfInBounds i true) a w) () (a.put o.dst v))
  (ho:ops[i]? = some o:=by rfl) (ho2:o.op = .load t x:=by rfl) (hx:a.eval x = .pointer (some ad):=by rfl) (hi:i<n:=by decide) (hf:Region.free md ops listed i=true:=by kernel_rfl) (hr:(Region.ready md ops listed).contains i=true:=by kernel_rfl) (hg:Region.wanted o (yielded ops a.tmps)=true:=by rfl):ycw P md ops Q (fun u=>Bl V u) n L (f+1) listed a w :=
 ygx i ho hi hf hr hg hS (fun _ _ h k=>h.trans k) (fun w hw=>ybw _ _ ad _ ho2 hx (h w hw)) (fK h2)
theorem bQ (i:Nat) (fn:FuncId) (vals:Array Value) (hS:Bl V w) (H:∀ u,Calls P fn vals u fun e w'=>e = .returned v∧Keep [] u w') (h2:∀ w',Bl V w'→Fn (fun a=>ycw P md ops Q (fun u=>Bl V u) n L f (listed.setIfInBounds i true) a w') () (a.put o.dst v))
  (ho:ops[i]? = some o:=by rfl) (ho2:o.op = .call ⟨.value (.func fn),args,ts⟩:=by rfl) (hv:args.map a.eval=vals:=by (simp only [List.map_toArray,List.map_cons,List.map_nil]<;>rfl)) (hc:∀ u,(callFunc fn vals).run P u = .ok (.enter fn vals) u:=by (intro u;rfl)) (hi:i<n:=by decide) (hr:Region.ready md ops listed=[i]:=by kernel_rfl) (hg:Region.wanted o (yielded ops a.tmps)=true:=by rfl):ycw P md ops Q (fun u=>Bl V u) n L (f+1) listed a w:=by
 refine heldB_one i hr hi ho hg (fun U hU K hK=>?_);refine yag fn vals (yaq _ _ _ _ ho2 hv (hc U)) ?_;refine (H U).mono ?_;rintro e w' ⟨rfl,hb⟩;exact ⟨v,rfl,fK (h2 w' ((hS.trans hU).trans (Bl.of hb))) (fun a=>K a w') (fun a h=>hK a w' ((hS.trans hU).trans (Bl.of hb)) (Bl.of hb) h)⟩
theorem xQ (i:Nat) (fn:FuncId) (vals:Array Value) (hS:Bl V w) (H:Calls P fn vals w fun e w'=>e = .returned v∧Keep [] w w') (h2:∀ w',Bl V w'→Fn (fun a=>yav P md ops Q (fun u=>Bl V u) n L f (listed.setIfInBounds i true) a w') () (a.put o.dst v))
  (ho:ops[i]? = some o:=by rfl) (ho2:o.op = .call ⟨.value (.func fn),args,ts⟩:=by rfl) (hv:args.map a.eval=vals:=by (simp only [List.map_toArray,List.map_cons,List.map_nil]<;>rfl)) (hc:(callFunc fn vals).run P w = .ok (.enter fn vals) w:=by rfl) (hi:i<n:=by decide) (hr:Region.ready md ops listed=[i]:=by kernel_rfl) (hg:Region.wanted o (yielded ops a.tmps)=true:=by rfl):yav P md ops Q (fun u=>Bl V u) n L (f+1) listed a w :=
 uQ i fn vals hS H (fun w' h _=>h2 w' h) ho ho2 hv hc hi hr hg
theorem xR (i:Nat) (fn:FuncId) (vals:Array Value) (hS:Bl V w) (H:Calls P fn vals w fun e w'=>e = .returned v∧Bl w w') (h2:∀ w',Bl V w'→Fn (fun a=>yav P md ops Q (fun u=>Bl V u) n L f (listed.setIfInBounds i true) a w') () (a.put o.dst v))
  (ho:ops[i]? = some o:=by rfl) (ho2:o.op = .call ⟨.value (.func fn),args,ts⟩:=by rfl) (hv:args.map a.eval=vals:=by (simp only [List.map_toArray,List.map_cons,List.map_nil]<;>rfl)) (hc:(callFunc fn vals).run P w = .ok (.enter fn vals) w:=by rfl) (hi:i<n:=by decide) (hr:Region.ready md ops listed=[i]:=by kernel_rfl) (hg:Region.wanted o (yielded ops a.tmps)=true:=by rfl):yav P md ops Q (fun u=>Bl V u) n L (f+1) listed a w :=
 uR i fn vals hS H (fun w' h _=>h2 w' h) ho ho2 hv hc hi hr hg
theorem pQ {T:Act→World→Prop} {K:Act→World→Prop} (fn:FuncId) (vals:Array Value) (hK:∀ a w,S w→T a w→K a w) (H:Calls P fn vals w fun e w'=>e = .returned v∧Keep [] w w') (h2:∀ w',Bl w w'→∀ K':Act→Prop,(∀ a,S w'→T a w'→K' a)→K' (a.put o.dst v))
  (ho2:o.op = .call ⟨.value (.func fn),args,ts⟩:=by rfl) (hv:args.map a.eval=vals:=by (simp only [List.map_toArray,List.map_cons,List.map_nil]<;>rfl)) (hc:(callFunc fn vals).run P w = .ok (.enter fn vals) w:=by rfl):o.wp P a w K Q:=by
 refine yag fn vals (yaq _ _ _ _ ho2 hv hc) ?_;refine H.mono ?_;rintro e w' ⟨rfl,hb⟩;exact ⟨v,rfl,h2 w' (Bl.of hb) (fun a=>K a w') (fun a h1 h=>hK a w' h1 h)⟩
theorem pR {T:Act→World→Prop} {K:Act→World→Prop} (fn:FuncId) (vals:Array Value) (hK:∀ a w,S w→T a w→K a w) (H:Calls P fn vals w fun e w'=>e = .returned v∧Bl w w') (h2:∀ w',Bl w w'→∀ K':Act→Prop,(∀ a,S w'→T a w'→K' a)→K' (a.put o.dst v))
  (ho2:o.op = .call ⟨.value (.func fn),args,ts⟩:=by rfl) (hv:args.map a.eval=vals:=by (simp only [List.map_toArray,List.map_cons,List.map_nil]<;>rfl)) (hc:(callFunc fn vals).run P w = .ok (.enter fn vals) w:=by rfl):o.wp P a w K Q:=by
 refine yag fn vals (yaq _ _ _ _ ho2 hv hc) ?_;refine H.mono ?_;rintro e w' ⟨rfl,hb⟩;exact ⟨v,rfl,h2 w' hb (fun a=>K a w') (fun a h1 h=>hK a w' h1 h)⟩
end
def zcells (z:Int):List Value:=[.bool (sgB z),.string (mgS z)]
def zC (z:Int):Array Value:=(zcells z).toArray
theorem ybK (z:Int):zv z = .agg (zC z):=rfl
def qC (x:Qn):Array Value:=(kcells x).toArray
theorem ygf (x:Qn):qv x = .agg (qC x):=rfl
theorem infoZ:∃ ie,prog.info? 26=some ie∧ie.size=2:=by
 have h:(prog.info? 26).map (·.size)=some 2:=by kernel_rfl
 cases hi:prog.info? 26 with
 | none=>rw [hi] at h;cases h
 | some ie=>rw [hi] at h;injection h with h;exact ⟨ie,rfl,h⟩
theorem z_size:(prog.info? 26).map (·.size)=some 2:=by
 obtain⟨ie,hie,hs⟩:=infoZ;rw [hie];exact congrArg some hs
theorem ydE (z:Int):(zC z).all (·.oneCell')=true:=all_oneCell_toArray (by
 intro v hv;simp only [zcells,List.mem_cons,List.not_mem_nil,or_false] at hv
 rcases hv with rfl|rfl<;>rfl)
theorem yaT (x:Qn):(qC x).all (·.oneCell')=true:=all_oneCell_toArray (ybV x)
theorem ld_z {w:World} {g:Nat} {z:Int} {t:TypeId} (h:w.heap[g]? = some (.cells (zC z) t)):(loadVar 26 ⟨g,0,none⟩).run prog w = .ok (.agg (zC z)) w:=by
 obtain⟨ie,hie,hs⟩:=infoZ;exact Go.Lib.rl_loadVar_cells 26 ie hie isAgg26 g 0 (zcells z) (by rw [hs];rfl) w (fun k v hk=>by rw [Nat.zero_add,yab h];exact (List.getElem?_toArray ..).trans hk)
theorem ld_num {w:World} {g:Nat} {q:Rat} {t:TypeId} (h:w.heap[g]? = some (.cells (rC q) t)):(loadVar 26 ⟨g,0,none⟩).run prog w = .ok (.agg (zC q.num)) w:=by
 obtain⟨ie,hie,hs⟩:=infoZ
 exact Go.Lib.rl_loadVar_cells 26 ie hie isAgg26 g 0 (zcells q.num) (by rw [hs];rfl) w (fun k v hk=>by
  rw [Nat.zero_add,yab h]
  match k,hk with
  | 0,hk=>exact hk
  | 1,hk=>exact hk
  | k+2,hk=>simp [zcells] at hk)
theorem ld_q {w:World} {g:Nat} {q:Rat} {t:TypeId} (h:w.heap[g]? = some (.cells (rC q) t)):(loadVar 28 ⟨g,0,none⟩).run prog w = .ok (.agg (rC q)) w:=by
 obtain⟨ie,hie,hs⟩:=infoRat;exact Go.Lib.rl_loadVar_cells 28 ie hie isAgg28 g 0 (rcells q) (by rw [hs];rfl) w (fun k v hk=>by rw [Nat.zero_add,yab h];exact (List.getElem?_toArray ..).trans hk)
theorem ld_x {w:World} {g:Nat} {x:Qn} {t:TypeId} (h:w.heap[g]? = some (.cells (qC x) t)):(loadVar 30 ⟨g,0,none⟩).run prog w = .ok (.agg (qC x)) w:=by
 obtain⟨ie,hie,hs⟩:=infoReal;exact Go.Lib.rl_loadVar_cells 30 ie hie isAgg30 g 0 (kcells x) (by rw [hs];rfl) w (fun k v hk=>by rw [Nat.zero_add,yab h];exact (List.getElem?_toArray ..).trans hk)
theorem ld_xp {w:World} {g:Nat} {x:Qn} {t:TypeId} (h:w.heap[g]? = some (.cells (qC x) t)):(loadVar 28 ⟨g,0,none⟩).run prog w = .ok (.agg (rC x.p)) w:=by
 obtain⟨ie,hie,hs⟩:=infoRat
 exact Go.Lib.rl_loadVar_cells 28 ie hie isAgg28 g 0 (rcells x.p) (by rw [hs];rfl) w (fun k v hk=>by
  rw [Nat.zero_add,yab h]
  match k,hk with
  | 0,hk=>exact hk
  | 1,hk=>exact hk
  | 2,hk=>exact hk
  | 3,hk=>exact hk
  | k+4,hk=>simp [rcells] at hk)
theorem yhH {w:World} {g:Nat} {x:Qn} {t:TypeId} (h:w.heap[g]? = some (.cells (qC x) t)):(loadVar 28 ⟨g,4,none⟩).run prog w = .ok (.agg (rC x.r)) w:=by
 obtain⟨ie,hie,hs⟩:=infoRat
 exact Go.Lib.rl_loadVar_cells 28 ie hie isAgg28 g 4 (rcells x.r) (by rw [hs];rfl) w (fun k v hk=>by
  rw [yab h]
  match k,hk with
  | 0,hk=>exact hk
  | 1,hk=>exact hk
  | 2,hk=>exact hk
  | 3,hk=>exact hk
  | k+4,hk=>simp [rcells] at hk)
theorem ld_xn {w:World} {g:Nat} {x:Qn} {t:TypeId} (h:w.heap[g]? = some (.cells (qC x) t)):w.cell? ⟨g,8,none⟩=some (.bool x.neg):=by
 rw [yab h];rfl
theorem al_zN (ev:Operand→Value) (w:World) (o:Oper) (ho:o.op = .alloc 26):(execOp ev o).run prog w = .ok (.value (.pointer (some ⟨w.heap.size,0,none⟩))) (w.alloc (.cells #[.bool false,.string ⟨#[]⟩] 26)):=by
 unfold execOp;simp only [ho];go_simp
theorem RSign_c (x:Qn) (h:FitR 10000000 x) (w:World):Calls prog 170 #[.agg (qC x)] w fun e w'=>e = .returned (.int .i64 (sg1 x.p x.u x.r))∧Keep [] w w':=by
 have H1:=jX (ydQ x);have H2:=jX (sign_c x.p x.u x.r (h.1.mono (by decide)) ((u_fit x).mono (by decide)) (h.2.mono (by decide)));rw [ygf,yap] at H1;rw [yap,yap,yap] at H2;have HL:=jX (fun (u:World) (g:Nat)=>ld_x (w:=u) (g:=g) (x:=x) (t:=30));have HLp:=jX (fun (u:World) (g:Nat)=>ld_xp (w:=u) (g:=g) (x:=x) (t:=30));have HLr:=jX (fun (u:World) (g:Nat)=>yhH (w:=u) (g:=g) (x:=x) (t:=30));generalize sg1 x.p x.u x.r=n at *;generalize rC x.u=U at *;generalize rC x.p=P at *;generalize rC x.r=R at *;generalize qC x=X at *;clear h;go_enter func170,ntmps170
 go_upto_region 1 with (fail)
 obtain⟨W,ga,hW,ega,Bga,hga,hgW,HkW⟩:=al1h w (.cells X 30);rw [← hW];try rw [ega]
 clear hW ega;refine yah (S:=fun u=>Keep [] W u) 7 (by kernel_rfl) (by kernel_rfl) (fun _ _ d _ _ h=>by cases d<;>exact h) ?_;have hS0:=Keep.drew [] W;generalize World.drew W=u at *;refine tV 0 hS0 ?_;go_simp;refine tX 1 ⟨ga,0,none⟩ hS0 (fun w hw=>HLp.out _ _ (hw.heap Bga.out (by simp))) ?_;go_simp;refine tX 2 ⟨ga,0,none⟩ hS0 (fun w hw=>HL.out _ _ (hw.heap Bga.out (by simp))) ?_;go_simp;refine tV 4 hS0 ?_;go_simp;refine tX 5 ⟨ga,4,none⟩ hS0 (fun w hw=>HLr.out _ _ (hw.heap Bga.out (by simp))) ?_;go_simp;refine tQ 3 129 #[.agg X] hS0 (H1.out _) (fun u2 hS0=>?_);go_simp;refine tQ 6 130 #[.agg P,.agg U,.agg R] hS0 (H2.out _) (fun u3 hS0=>?_);go_simp;refine ⟨by kernel_rfl,?_⟩;simp only [List.drop_succ_cons,List.drop_zero];have Hk:=jX (HkW.out.tz hS0);clear hS0;go_wp2_with fail;go_ret
 exact ⟨rfl,Hk.out⟩
theorem CmpRat_c (x:Qn) (q:Rat) (h:FitR 10000000 x) (hq:FitQ 100000 q) (w:World):Calls prog 174 #[.agg (qC x),.agg (rC q)] w fun e w'=>e = .returned (.int .i64 (cmpQ x ⟨q,0,false⟩))∧Keep [] w w':=by
 have H1:=jX (FromRat_c q hq);have hk:kv (kQ q hq) = .agg (qC ⟨q,0,false⟩):=rfl;rw [hk,yap] at H1;have H2:=jX (RCompare_c x ⟨q,0,false⟩ h ⟨hq.mono (by decide),fitq0.mono (by decide)⟩);rw [ygf,ygf] at H2;have HL:=jX (fun (u:World) (g:Nat)=>ld_x (w:=u) (g:=g) (x:=x) (t:=30));have HLq:=jX (fun (u:World) (g:Nat)=>ld_q (w:=u) (g:=g) (q:=q) (t:=28));generalize cmpQ x ⟨q,0,false⟩=n at *;clear hk;generalize qC ⟨q,0,false⟩=Y at *;generalize qC x=X at *;generalize rC q=Q at *;clear h hq;go_enter func174,ntmps174
 go_upto_region 1 with (fail)
 obtain⟨W,ga,gb,hW,ega,egb,Bga,Bgb,hga,hgb,hgW,HkW⟩:=al2h w (.cells X 30) (.cells Q 28);rw [← hW];try rw [egb]
 try rw [ega]
 clear hW ega egb;refine yah (S:=fun u=>Keep [] W u) 4 (by kernel_rfl) (by kernel_rfl) (fun _ _ d _ _ h=>by cases d<;>exact h) ?_;have hS0:=Keep.drew [] W;generalize World.drew W=u at *;refine tX 0 ⟨ga,0,none⟩ hS0 (fun w hw=>HL.out _ _ (hw.heap Bga.out (by simp))) ?_;go_simp;refine tX 1 ⟨gb,0,none⟩ hS0 (fun w hw=>HLq.out _ _ (hw.heap Bgb.out (by simp))) ?_;go_simp;refine tQ 2 84 #[.agg Q] hS0 (H1.out _) (fun u2 hS0=>?_);go_simp;refine tQ 3 81 #[.agg X,.agg Y] hS0 (H2.out _) (fun u3 hS0=>?_);go_simp;refine ⟨by kernel_rfl,?_⟩;simp only [List.drop_succ_cons,List.drop_zero];have Hk:=jX (HkW.out.tz hS0);clear hS0;go_wp2_with fail;go_ret
 exact ⟨rfl,Hk.out⟩
theorem canonN_c (a b:Int) (ha:Fit 100000000000 a) (hb:Fit 100000000000 b) (h0:b<0) (w:World) :
  Calls prog 155 #[zv a,zv b] w fun e w'=>e = .returned (rv (Rat.divInt (-a) (-b)))∧Keep [] w w':=by
 have hgd:=eqZ_g;have Hs:=jX (Sign_c b);rw [show zsgn b = -1 by unfold zsgn;rw [if_pos h0]] at Hs
 have N1:=jX (Negate_c a);have N2:=jX (Negate_c b);unfold zv at Hs ⊢;have ha':Fit 100000000000 (-a):=ha.neg;have hb':Fit 100000000000 (-b):=hb.neg;have h0':0 < -b:=by omega
 generalize hA : -a=A at *;generalize hB : -b=B at *;clear ha hb h0;unfold zv at N1 N2;generalize sgB a=ia at *;generalize sgB b=ib at *;generalize mgS a=ta at *;generalize mgS b=tb at *;clear hA hB;have hgp:0<Int.gcd A B:=Int.gcd_pos_of_ne_zero_right _ (by omega)
 have hgf:Fit 100000000000 (Int.gcd A B:Nat):=by
  refine hb'.le ?_;rw [Int.natAbs_natCast];exact Nat.le_of_dvd (by omega) (Int.gcd_dvd_natAbs_right A B)
 have Hg:=jX (Gcd_c A B ha' hb');have Hq1:=jX (ydh A (Int.gcd A B:Nat) ha' hgf (by omega));have Hq2:=jX (ydh B (Int.gcd A B:Nat) hb' hgf (by omega));have Hone:=jX one_c
 have hn:(Rat.divInt A B).num=A / (Int.gcd A B:Nat):=by
  rw [Rat.num_divInt,Int.sign_eq_one_of_pos h0',Int.one_mul,Int.gcd_comm]
 have hd:(((Rat.divInt A B).den:Nat):Int)=B / (Int.gcd A B:Nat):=by
  rw [Rat.den_divInt,if_neg (by omega),Int.gcd_comm];push_cast
  rw [Int.natAbs_of_nonneg (by omega)]
 have hdec:=eqZ_run (B / (Int.gcd A B:Nat)) 1;have hdn:∀ n:Nat,(n:Int)=B / (Int.gcd A B:Nat)→sgB (B / (Int.gcd A B:Nat))=false∧mgS (B / (Int.gcd A B:Nat))=magS n:=fun n e=>by rw [← e,yfG,yfE];exact ⟨rfl,rfl⟩
 obtain⟨hd1,hd2⟩:=hdn _ hd;have hd3:B / (Int.gcd A B:Nat)=1↔(Rat.divInt A B).den=1:=by rw [← hd];omega
 unfold zv at Hg Hq1 Hq2 Hone;unfold rv;rw [hn];have hgs:sgB (Int.gcd A B:Nat)=false:=yfG _;simp only [hgs] at Hg Hq1 Hq2;generalize mgS (Int.gcd A B:Nat)=sg at *;generalize hne:A / ((Int.gcd A B:Nat):Int)=n' at *;generalize hde:B / ((Int.gcd A B:Nat):Int)=d' at *;simp only [hd1,hd2] at Hq2 hdec;generalize sgB A=na at *;generalize sgB B=nb at *;generalize mgS A=sa at *;generalize mgS B=sb at *;generalize sgB n'=nq at *;generalize mgS n'=sq at *;generalize sgB 1=n1 at *;generalize mgS 1=s1 at *;clear ha' hb' h0' hgf hgp hn hd hdn hd1 hgs hne hde hd2;by_cases h1:(Rat.divInt A B).den=1
 ·rw [ycM h1]
  have hdt:decide (d'=1)=true:=by simpa using hd3.2 h1
  rw [hdt] at hdec;generalize magS (Rat.divInt A B).den=sd at *;clear hd3 h1 hdt;go_enter func155,ntmps155
  go_wp2_with fail;obtain⟨W,ga,gb,gc,hW,ega,egb,egc,Bga,Bgb,Bgc,hga,hgb,hgc,hgW,HkW⟩:=al3h w (.cells #[.bool ia,.string ta] 26) (.cells #[.bool ib,.string tb] 26) (.cells #[.bool false,.string ⟨#[]⟩,.bool false,.string ⟨#[]⟩] 28);rw [← hW];try rw [egc]
  try rw [egb]
  try rw [ega]
  clear hW ega egb egc;refine (Hs.out W).mono ?_;rintro e w1 ⟨rfl,hk1⟩;dsimp only;clear Hs;replace Bga:=jH hk1 Bga;replace Bgb:=jH hk1 Bgb;replace Bgc:=jH hk1 Bgc;replace HkW:=jX (HkW.out.tz hk1);clear hk1;obtain⟨pga,fga,lga⟩:=jQ Bga;obtain⟨pgb,fgb,lgb⟩:=jQ Bgb;go_wp2_with fail;clear pga pgb fga fgb lga lgb;have kga:=yaf Bga.out;have kgb:=yaf Bgb.out;have Q1:Hid (∀ m:KW w1,Calls prog 118 #[.agg #[.bool ia,.string ta]] (Wk w1 m) fun e w'=>e = .returned (.agg #[.bool na,.string sa])∧∃ m,w'=Wk w1 m):=fun m=>qk m (N1.out _);have Q2:Hid (∀ m:KW w1,Calls prog 118 #[.agg #[.bool ib,.string tb]] (Wk w1 m) fun e w'=>e = .returned (.agg #[.bool nb,.string sb])∧∃ m,w'=Wk w1 m):=fun m=>qk m (N2.out _);clear N1 N2;refine yai 4 (by kernel_rfl) (by kernel_rfl) ?_;simp only [List.take_succ_cons,List.take_zero,List.drop_succ_cons,List.drop_zero]
  repeat (first
   | go_big_quiet_skip
   | (go_big_quiet_want;go_big_quiet_op;first|go_big_quiet_on|go_big_quiet_call (first
    | (go_at_call 118;with_reducible exact (Q1).out _)|(go_at_call 118;with_reducible exact (Q2).out _))))
  refine wpQuiet_nil ?_;rintro wy ⟨⟨_,hk_wy⟩,rfl⟩;clear kga kgb Q1 Q2;replace Bga:=jH hk_wy Bga;replace Bgb:=jH hk_wy Bgb;replace Bgc:=jH hk_wy Bgc;replace HkW:=jX (HkW.out.tz hk_wy);clear hk_wy;obtain⟨pga,fga,lga⟩:=jQ Bga;obtain⟨pgb,fgb,lgb⟩:=jQ Bgb;go_wp2_with fail;clear pga pgb fga fgb lga lgb;obtain⟨W2,hW2,bga,hkW2⟩:=st2 (x:=.bool na) (y:=.string sa) (Bga.out:(wy).heap[ga]? = _);rw [← hW2];clear Bga;have Bga:=jX bga;clear hW2 bga;have B2gb:=jX (hkW2.heap Bgb.out (by simp;omega));clear Bgb;have Bgb:=B2gb;clear B2gb;have B2gc:=jX (hkW2.heap Bgc.out (by simp;omega));clear Bgc;have Bgc:=B2gc;clear B2gc;have HkW2:=jX (HkW.out.trans hkW2 (by simp;omega));clear HkW hkW2;have HkW:=HkW2;clear HkW2;obtain⟨W3,rfl⟩:∃ x:World,x=W2:=⟨_,rfl⟩;obtain⟨W2,hW2,bgb,hkW2⟩:=st2 (x:=.bool nb) (y:=.string sb) (Bgb.out:(W3).heap[gb]? = _);rw [← hW2];clear Bgb;have Bgb:=jX bgb;clear hW2 bgb;have B2ga:=jX (hkW2.heap Bga.out (by simp;omega));clear Bga;have Bga:=B2ga;clear B2ga;have B2gc:=jX (hkW2.heap Bgc.out (by simp;omega));clear Bgc;have Bgc:=B2gc;clear B2gc;have HkW2:=jX (HkW.out.trans hkW2 (by simp;omega));clear HkW hkW2;have HkW:=HkW2;clear HkW2;obtain⟨w1,rfl⟩:∃ x:World,x=W2:=⟨_,rfl⟩;obtain⟨pga,fga,lga⟩:=jQ Bga;obtain⟨pgb,fgb,lgb⟩:=jQ Bgb;go_wp2_with fail;refine (Hg.out _).mono ?_;rintro e w2 ⟨rfl,hk2⟩;dsimp only;clear Hg pga pgb fga fgb lga lgb;replace Bga:=jH hk2 Bga;replace Bgb:=jH hk2 Bgb;replace Bgc:=jH hk2 Bgc;replace HkW:=jX (HkW.out.tz hk2);clear hk2;obtain⟨pga,fga,lga⟩:=jQ Bga;obtain⟨pgb,fgb,lgb⟩:=jQ Bgb;obtain⟨pgc,fgc,lgc⟩:=jQ Bgc;go_wp2_with fail;obtain⟨W2,gd,hW2,egd,bgd,hgd,hgW2,hkW2⟩:=al1 w2 (.cells #[.bool false,.string sg] 26);rw [← hW2];try rw [egd]
  have Bgd:=jX bgd;clear hW2 egd bgd;clear pga pgb pgc fga fgb fgc lga lgb lgc;replace Bga:=jH hkW2 Bga;replace Bgb:=jH hkW2 Bgb;replace Bgc:=jH hkW2 Bgc;replace HkW:=jX (HkW.out.tz hkW2);clear hkW2;have kga:=yaf Bga.out;have kgb:=yaf Bgb.out;have kgd:=yaf Bgd.out;have Q1:Hid (∀ m:KW W2,Calls prog 188 #[.agg #[.bool na,.string sa],.agg #[.bool false,.string sg]] (Wk W2 m) fun e w'=>e = .returned (.agg #[.bool nq,.string sq])∧∃ m,w'=Wk W2 m):=fun m=>qk m (Hq1.out _);have Q2:Hid (∀ m:KW W2,Calls prog 188 #[.agg #[.bool nb,.string sb],.agg #[.bool false,.string sg]] (Wk W2 m) fun e w'=>e = .returned (.agg #[.bool false,.string sd])∧∃ m,w'=Wk W2 m):=fun m=>qk m (Hq2.out _);clear Hq1 Hq2;refine yai 6 (by kernel_rfl) (by kernel_rfl) ?_;simp only [List.take_succ_cons,List.take_zero,List.drop_succ_cons,List.drop_zero]
  repeat (first
   | go_big_quiet_skip
   | (go_big_quiet_want;go_big_quiet_op;first|go_big_quiet_on|go_big_quiet_call (first
    | (go_at_call 188;with_reducible exact (Q1).out _)|(go_at_call 188;with_reducible exact (Q2).out _))))
  refine wpQuiet_nil ?_;rintro wz ⟨⟨_,hk_wz⟩,rfl⟩;clear kga kgb kgd Q1 Q2;replace Bga:=jH hk_wz Bga;replace Bgb:=jH hk_wz Bgb;replace Bgc:=jH hk_wz Bgc;replace Bgd:=jH hk_wz Bgd;replace HkW:=jX (HkW.out.tz hk_wz);clear hk_wz;obtain⟨pga,fga,lga⟩:=jQ Bga;obtain⟨pgb,fgb,lgb⟩:=jQ Bgb;go_wp2_with fail;clear pga pgb fga fgb lga lgb;obtain⟨W2,hW2,bga,hkW2⟩:=st2 (x:=.bool nq) (y:=.string sq) (Bga.out:(wz).heap[ga]? = _);rw [← hW2];clear Bga;have Bga:=jX bga;clear hW2 bga;have B2gb:=jX (hkW2.heap Bgb.out (by simp;omega));clear Bgb;have Bgb:=B2gb;clear B2gb;have B2gc:=jX (hkW2.heap Bgc.out (by simp;omega));clear Bgc;have Bgc:=B2gc;clear B2gc;have HkW2:=jX (HkW.out.trans hkW2 (by simp;omega));clear HkW hkW2;have HkW:=HkW2;clear HkW2;obtain⟨W3,rfl⟩:∃ x:World,x=W2:=⟨_,rfl⟩;obtain⟨W2,hW2,bgb,hkW2⟩:=st2 (x:=.bool false) (y:=.string sd) (Bgb.out:(W3).heap[gb]? = _);rw [← hW2];clear Bgb;have Bgb:=jX bgb;clear hW2 bgb;have B2ga:=jX (hkW2.heap Bga.out (by simp;omega));clear Bga;have Bga:=B2ga;clear B2ga;have B2gc:=jX (hkW2.heap Bgc.out (by simp;omega));clear Bgc;have Bgc:=B2gc;clear B2gc;have HkW2:=jX (HkW.out.trans hkW2 (by simp;omega));clear HkW hkW2;have HkW:=HkW2;clear HkW2;have kgb:=yaf Bgb.out;have Q1:Hid (∀ m:KW W2,Calls prog 152 #[] (Wk W2 m) fun e w'=>e = .returned (.agg #[.bool n1,.string s1])∧∃ m,w'=Wk W2 m):=fun m=>qk m (Hone.out _);clear Hone;refine yad (by kernel_rfl) (by kernel_rfl) ?_
  repeat (first
   | go_big_quiet_skip
   | (go_big_quiet_want;go_big_quiet_op;first|go_big_quiet_on|go_big_quiet_call (first
    | (go_at_call 152;with_reducible exact (Q1).out _))))
  refine wpQuiet_nil ?_;rintro w9 ⟨⟨_,hk_w9⟩,rfl⟩;clear kgb Q1 Bgd;replace Bga:=jH hk_w9 Bga;replace Bgb:=jH hk_w9 Bgb;replace Bgc:=jH hk_w9 Bgc;replace HkW:=jX (HkW.out.tz hk_w9);clear hk_w9;obtain⟨pga,fga,lga⟩:=jQ Bga;obtain⟨pgb,fgb,lgb⟩:=jQ Bgb;obtain⟨pgc,fgc,lgc⟩:=jQ Bgc;go_wp2_with fail;refine bodyPost_ret (v:=.agg #[.bool nq,.string sq,.bool false,.string ⟨#[]⟩]) ?_ rfl ⟨rfl,by repeat (first|(with_reducible exact HkW.out)|(refine Keep.sP ?_ _ _ _ (by omega))|(refine Keep.aP ?_ _)|(refine Keep.dP ?_))⟩;rw [yac rfl];go_simp
 rw [yel h1]
 have hdt:decide (d'=1)=false:=by
  rw [decide_eq_false_iff_not];exact fun h=>h1 (hd3.1 h)
 rw [hdt] at hdec;generalize magS (Rat.divInt A B).den=sd at *;clear hd3 h1 hdt;go_enter func155,ntmps155
 go_wp2_with fail;obtain⟨W,ga,gb,gc,hW,ega,egb,egc,Bga,Bgb,Bgc,hga,hgb,hgc,hgW,HkW⟩:=al3h w (.cells #[.bool ia,.string ta] 26) (.cells #[.bool ib,.string tb] 26) (.cells #[.bool false,.string ⟨#[]⟩,.bool false,.string ⟨#[]⟩] 28);rw [← hW];try rw [egc]
 try rw [egb]
 try rw [ega]
 clear hW ega egb egc;refine (Hs.out W).mono ?_;rintro e w1 ⟨rfl,hk1⟩;dsimp only;clear Hs;replace Bga:=jH hk1 Bga;replace Bgb:=jH hk1 Bgb;replace Bgc:=jH hk1 Bgc;replace HkW:=jX (HkW.out.tz hk1);clear hk1;obtain⟨pga,fga,lga⟩:=jQ Bga;obtain⟨pgb,fgb,lgb⟩:=jQ Bgb;go_wp2_with fail;clear pga pgb fga fgb lga lgb;have kga:=yaf Bga.out;have kgb:=yaf Bgb.out;have Q1:Hid (∀ m:KW w1,Calls prog 118 #[.agg #[.bool ia,.string ta]] (Wk w1 m) fun e w'=>e = .returned (.agg #[.bool na,.string sa])∧∃ m,w'=Wk w1 m):=fun m=>qk m (N1.out _);have Q2:Hid (∀ m:KW w1,Calls prog 118 #[.agg #[.bool ib,.string tb]] (Wk w1 m) fun e w'=>e = .returned (.agg #[.bool nb,.string sb])∧∃ m,w'=Wk w1 m):=fun m=>qk m (N2.out _);clear N1 N2;refine yai 4 (by kernel_rfl) (by kernel_rfl) ?_;simp only [List.take_succ_cons,List.take_zero,List.drop_succ_cons,List.drop_zero]
 repeat (first
  | go_big_quiet_skip
  | (go_big_quiet_want;go_big_quiet_op;first|go_big_quiet_on|go_big_quiet_call (first
   | (go_at_call 118;with_reducible exact (Q1).out _)|(go_at_call 118;with_reducible exact (Q2).out _))))
 refine wpQuiet_nil ?_;rintro wy ⟨⟨_,hk_wy⟩,rfl⟩;clear kga kgb Q1 Q2;replace Bga:=jH hk_wy Bga;replace Bgb:=jH hk_wy Bgb;replace Bgc:=jH hk_wy Bgc;replace HkW:=jX (HkW.out.tz hk_wy);clear hk_wy;obtain⟨pga,fga,lga⟩:=jQ Bga;obtain⟨pgb,fgb,lgb⟩:=jQ Bgb;go_wp2_with fail;clear pga pgb fga fgb lga lgb;obtain⟨W2,hW2,bga,hkW2⟩:=st2 (x:=.bool na) (y:=.string sa) (Bga.out:(wy).heap[ga]? = _);rw [← hW2];clear Bga;have Bga:=jX bga;clear hW2 bga;have B2gb:=jX (hkW2.heap Bgb.out (by simp;omega));clear Bgb;have Bgb:=B2gb;clear B2gb;have B2gc:=jX (hkW2.heap Bgc.out (by simp;omega));clear Bgc;have Bgc:=B2gc;clear B2gc;have HkW2:=jX (HkW.out.trans hkW2 (by simp;omega));clear HkW hkW2;have HkW:=HkW2;clear HkW2;obtain⟨W3,rfl⟩:∃ x:World,x=W2:=⟨_,rfl⟩;obtain⟨W2,hW2,bgb,hkW2⟩:=st2 (x:=.bool nb) (y:=.string sb) (Bgb.out:(W3).heap[gb]? = _);rw [← hW2];clear Bgb;have Bgb:=jX bgb;clear hW2 bgb;have B2ga:=jX (hkW2.heap Bga.out (by simp;omega));clear Bga;have Bga:=B2ga;clear B2ga;have B2gc:=jX (hkW2.heap Bgc.out (by simp;omega));clear Bgc;have Bgc:=B2gc;clear B2gc;have HkW2:=jX (HkW.out.trans hkW2 (by simp;omega));clear HkW hkW2;have HkW:=HkW2;clear HkW2;obtain⟨w1,rfl⟩:∃ x:World,x=W2:=⟨_,rfl⟩;obtain⟨pga,fga,lga⟩:=jQ Bga;obtain⟨pgb,fgb,lgb⟩:=jQ Bgb;go_wp2_with fail;refine (Hg.out _).mono ?_;rintro e w2 ⟨rfl,hk2⟩;dsimp only;clear Hg pga pgb fga fgb lga lgb;replace Bga:=jH hk2 Bga;replace Bgb:=jH hk2 Bgb;replace Bgc:=jH hk2 Bgc;replace HkW:=jX (HkW.out.tz hk2);clear hk2;obtain⟨pga,fga,lga⟩:=jQ Bga;obtain⟨pgb,fgb,lgb⟩:=jQ Bgb;obtain⟨pgc,fgc,lgc⟩:=jQ Bgc;go_wp2_with fail;obtain⟨W2,gd,hW2,egd,bgd,hgd,hgW2,hkW2⟩:=al1 w2 (.cells #[.bool false,.string sg] 26);rw [← hW2];try rw [egd]
 have Bgd:=jX bgd;clear hW2 egd bgd;clear pga pgb pgc fga fgb fgc lga lgb lgc;replace Bga:=jH hkW2 Bga;replace Bgb:=jH hkW2 Bgb;replace Bgc:=jH hkW2 Bgc;replace HkW:=jX (HkW.out.tz hkW2);clear hkW2;have kga:=yaf Bga.out;have kgb:=yaf Bgb.out;have kgd:=yaf Bgd.out;have Q1:Hid (∀ m:KW W2,Calls prog 188 #[.agg #[.bool na,.string sa],.agg #[.bool false,.string sg]] (Wk W2 m) fun e w'=>e = .returned (.agg #[.bool nq,.string sq])∧∃ m,w'=Wk W2 m):=fun m=>qk m (Hq1.out _);have Q2:Hid (∀ m:KW W2,Calls prog 188 #[.agg #[.bool nb,.string sb],.agg #[.bool false,.string sg]] (Wk W2 m) fun e w'=>e = .returned (.agg #[.bool false,.string sd])∧∃ m,w'=Wk W2 m):=fun m=>qk m (Hq2.out _);clear Hq1 Hq2;refine yai 6 (by kernel_rfl) (by kernel_rfl) ?_;simp only [List.take_succ_cons,List.take_zero,List.drop_succ_cons,List.drop_zero]
 repeat (first
  | go_big_quiet_skip
  | (go_big_quiet_want;go_big_quiet_op;first|go_big_quiet_on|go_big_quiet_call (first
   | (go_at_call 188;with_reducible exact (Q1).out _)|(go_at_call 188;with_reducible exact (Q2).out _))))
 refine wpQuiet_nil ?_;rintro wz ⟨⟨_,hk_wz⟩,rfl⟩;clear kga kgb kgd Q1 Q2;replace Bga:=jH hk_wz Bga;replace Bgb:=jH hk_wz Bgb;replace Bgc:=jH hk_wz Bgc;replace Bgd:=jH hk_wz Bgd;replace HkW:=jX (HkW.out.tz hk_wz);clear hk_wz;obtain⟨pga,fga,lga⟩:=jQ Bga;obtain⟨pgb,fgb,lgb⟩:=jQ Bgb;go_wp2_with fail;clear pga pgb fga fgb lga lgb;obtain⟨W2,hW2,bga,hkW2⟩:=st2 (x:=.bool nq) (y:=.string sq) (Bga.out:(wz).heap[ga]? = _);rw [← hW2];clear Bga;have Bga:=jX bga;clear hW2 bga;have B2gb:=jX (hkW2.heap Bgb.out (by simp;omega));clear Bgb;have Bgb:=B2gb;clear B2gb;have B2gc:=jX (hkW2.heap Bgc.out (by simp;omega));clear Bgc;have Bgc:=B2gc;clear B2gc;have HkW2:=jX (HkW.out.trans hkW2 (by simp;omega));clear HkW hkW2;have HkW:=HkW2;clear HkW2;obtain⟨W3,rfl⟩:∃ x:World,x=W2:=⟨_,rfl⟩;obtain⟨W2,hW2,bgb,hkW2⟩:=st2 (x:=.bool false) (y:=.string sd) (Bgb.out:(W3).heap[gb]? = _);rw [← hW2];clear Bgb;have Bgb:=jX bgb;clear hW2 bgb;have B2ga:=jX (hkW2.heap Bga.out (by simp;omega));clear Bga;have Bga:=B2ga;clear B2ga;have B2gc:=jX (hkW2.heap Bgc.out (by simp;omega));clear Bgc;have Bgc:=B2gc;clear B2gc;have HkW2:=jX (HkW.out.trans hkW2 (by simp;omega));clear HkW hkW2;have HkW:=HkW2;clear HkW2;have kgb:=yaf Bgb.out;have Q1:Hid (∀ m:KW W2,Calls prog 152 #[] (Wk W2 m) fun e w'=>e = .returned (.agg #[.bool n1,.string s1])∧∃ m,w'=Wk W2 m):=fun m=>qk m (Hone.out _);clear Hone;refine yad (by kernel_rfl) (by kernel_rfl) ?_
 repeat (first
  | go_big_quiet_skip
  | (go_big_quiet_want;go_big_quiet_op;first|go_big_quiet_on|go_big_quiet_call (first
   | (go_at_call 152;with_reducible exact (Q1).out _))))
 refine wpQuiet_nil ?_;rintro w9 ⟨⟨_,hk_w9⟩,rfl⟩;clear kgb Q1 Bgd;replace Bga:=jH hk_w9 Bga;replace Bgb:=jH hk_w9 Bgb;replace Bgc:=jH hk_w9 Bgc;replace HkW:=jX (HkW.out.tz hk_w9);clear hk_w9;obtain⟨pga,fga,lga⟩:=jQ Bga;obtain⟨pgb,fgb,lgb⟩:=jQ Bgb;obtain⟨pgc,fgc,lgc⟩:=jQ Bgc;go_wp2_with fail;refine bodyPost_ret (v:=.agg #[.bool nq,.string sq,.bool false,.string sd]) ?_ rfl ⟨rfl,by repeat (first|(with_reducible exact HkW.out)|(refine Keep.sP ?_ _ _ _ (by omega))|(refine Keep.aP ?_ _)|(refine Keep.dP ?_))⟩;rw [yac rfl];go_simp
end Go.Proofs.YtpgffjjpiafhpaaGreatDoor
