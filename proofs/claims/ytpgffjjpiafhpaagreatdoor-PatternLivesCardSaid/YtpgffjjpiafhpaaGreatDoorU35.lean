/- Parts of a proof: Bl Bm Fc Fg. -/
import Derived.Test.YtpgffjjpiafhpaaGreatDoorU34
import Derived.Test.YtpgffjjpiafhpaaGreatDoorU15
import Derived.Test.YtpgffjjpiafhpaaGreatDoorU20
import Derived.Test.YtpgffjjpiafhpaaGreatDoorU23
import Derived.Test.YtpgffjjpiafhpaaGreatDoorU25
import Derived.Test.YtpgffjjpiafhpaaGreatDoorU24
set_option linter.unusedVariables false
set_option linter.unusedSimpArgs false
set_option maxRecDepth 100000
set_option maxHeartbeats 8000000
namespace Go.Proofs.YtpgffjjpiafhpaaGreatDoor
open Go.RowKit Tryz
section
open Classical
noncomputable def ybi (i:Iv K):K:=if h:i.f.pt<i.l.pt∧FitQ 100000 (yeT i.f.pt.1 i.l.pt.1) then kQ (yeT i.f.pt.1 i.l.pt.1) h.2 else i.f.pt
theorem kC_qC (x:K):kC x=qC x.1:=rfl
theorem pick_no (I:Iv K) (h:¬ I.f.pt<I.l.pt) (w:World):Calls prog 23 #[iv I] w fun e w'=>e = .returned (.agg (kC I.f.pt))∧Bl w w':=by
 have hc:0≤cmpQ I.f.pt.1 I.l.pt.1:=by
  rcases K.tri I.f.pt I.l.pt with ⟨e,k⟩|⟨e,k⟩|⟨e,k⟩<;>rw [e]
  ·decide
  ·exact absurd k h
  decide
 have H1:=Bx.mk (yjo I.f.pt.1 I.l.pt.1 _ (jX (RCompare_c I.f.pt.1 I.l.pt.1 ⟨I.f.pt.2.2.1.mono (by decide),I.f.pt.2.2.2.mono (by decide)⟩ ⟨I.l.pt.2.2.1.mono (by decide),I.l.pt.2.2.2.mono (by decide)⟩)) hc);clear hc h;have LF:=Bx.mk (fun (u:World) (g:Nat) (h:u.heap[g]? = some (.cells (iC I) 32))=>show (loadVar 30 ⟨g,0,none⟩).run prog u = .ok (.agg (qC I.f.pt.1)) u from yax _ _ _ _ (yao h).frm)
 have LT:=Bx.mk (fun (u:World) (g:Nat) (h:u.heap[g]? = some (.cells (iC I) 32))=>show (loadVar 30 ⟨g,9,none⟩).run prog u = .ok (.agg (qC I.l.pt.1)) u from yax _ _ _ _ (yao h).upto)
 rw [show iv I = .agg (iC I) from rfl]
 have LX:=Bx.mk (fun (u:World) (g:Nat)=>ld_x (w:=u) (g:=g) (x:=I.f.pt.1) (t:=30));have SX:=Bx.mk (show (qC I.f.pt.1).size=9∧(qC I.f.pt.1).all (·.oneCell')=true from ⟨rfl,ybd _⟩)
 have LQ:=Bx.mk (fun (u:World) (g:Nat)=>ld_q (w:=u) (g:=g) (q:=0) (t:=28));have SQ:=Bx.mk (show (rC 0).size=4∧(rC 0).all (·.oneCell')=true from ⟨rfl,yaP _⟩)
 rw [kC_qC];generalize rC 0=Q at *;generalize qC I.f.pt.1=X at *;generalize qC I.l.pt.1=Y at *;generalize iC I=C at *;go_enter func23,ntmps23
 go_upto_region 1 with (fail)
 obtain⟨W,ga,gb,hW,ega,egb,Bga,Bgb,hga,hgb,hgW,HkW⟩:=al2h w (.cells C 32) (.cells #[.bool false,.string ⟨#[]⟩,.bool false,.string ⟨#[]⟩,.bool false,.string ⟨#[]⟩,.bool false,.string ⟨#[]⟩,.bool false] 30);rw [← hW];try rw [egb]
 try rw [ega]
 clear hW ega egb;have HB:Hid (Bl w W):=jX (Bl.of HkW.out);clear HkW;refine wp_region_lit ?_;refine wV ?_;go_simp;refine wX ⟨ga,0,none⟩ (LF.out _ _ Bga.out) ?_;go_simp;refine wV ?_;go_simp;refine wX ⟨ga,9,none⟩ (LT.out _ _ Bga.out) ?_;go_simp;refine wE 83 #[.agg X,.agg Y] (H1.out _) (fun w1 hb=>?_);go_simp;refine fO ?_;have hb:Bl W w1:=hb;have HB:=jX (HB.out.trans hb);have Bga:=jX (hb.heap Bga.out);have Bgb:=jX (hb.heap Bgb.out);clear hb;refine wV ?_;go_simp;refine wV ?_;go_simp;refine wV ?_;go_simp;refine fO ?_;have z_gc:=HB.out.size;refine wA (ycb _ _ _ rfl) (fun w2 gc e2 b_n _ _ hk3=>?_);go_simp;refine wR gc Q b_n (by rw [SQ.out.1];exact q_size) (by rw [SQ.out.1];rfl) SQ.out.2 (fun w3 b_s k_s=>?_);go_simp;refine fO ?_;have h_gc:w.heap.size≤gc:=by omega
 have hb:Bl w1 w3:=(Bl.of hk3).set k_s (by omega);have HB:=jX (HB.out.trans hb);have n_ga_gc:ga<gc:=by have:=yaa Bga.out;omega
 have n_gb_gc:gb<gc:=by have:=yaa Bgb.out;omega
 have Bga:=jX (hb.heap Bga.out);have Bgb:=jX (hb.heap Bgb.out);have Bgc:=jX b_s;clear hb hk3 k_s b_s b_n e2 z_gc;go_upto_region 3 with (fail)
 refine wp_region_lit ?_;refine wV ?_;go_simp;refine wX ⟨ga,0,none⟩ (LF.out _ _ Bga.out) ?_;go_simp;refine fO ?_;have b_n:=Bgb.out;refine wR gb X b_n (by rw [SX.out.1];exact k_size) (by rw [SX.out.1];rfl) SX.out.2 (fun w4 b_s k_s=>?_);go_simp;refine fO ?_;have Bga:=jX (k_s.heap Bga.out (by simp;omega));have Bgc:=jX (k_s.heap Bgc.out (by simp;omega));have Bgb:=jX b_s;have HB:Hid (Bl w w4):=jX (HB.out.set k_s (by omega));clear b_n b_s k_s;have hlr:=LX.out _ _ Bgb.out;go_wp2_with fail;refine bodyPost_ret (v:=.agg X) ?_ rfl ⟨rfl,HB.out⟩;rw [yac rfl];show (Result.ok (⟨gb,0,none⟩:Addr) w4).andThen (fun a w=>(loadVar 30 a).run prog w)=_
 rw [Result.andThen_ok,hlr]
theorem pick_yes (I:Iv K) (q:Rat) (hq:FitQ 100000 q) (h:I.f.pt<I.l.pt) (HS:Hid (∀ w,Calls prog 132 #[.agg (qC I.f.pt.1),.agg (qC I.l.pt.1)] w fun e w'=>e = .returned (.agg (rC q))∧Bl w w')) (w:World):Calls prog 23 #[iv I] w fun e w'=>e = .returned (.agg (kC (kQ q hq)))∧Bl w w':=by
 have hc:¬ 0≤cmpQ I.f.pt.1 I.l.pt.1:=by
  rw [K.cmp_neg.2 h];decide
 have H1:=Bx.mk (yhP I.f.pt.1 I.l.pt.1 q _ (jX (RCompare_c I.f.pt.1 I.l.pt.1 ⟨I.f.pt.2.2.1.mono (by decide),I.f.pt.2.2.2.mono (by decide)⟩ ⟨I.l.pt.2.2.1.mono (by decide),I.l.pt.2.2.2.mono (by decide)⟩)) HS hc);have H2:=Bx.mk (FromRat_c q hq);clear hc h HS;have LF:=Bx.mk (fun (u:World) (g:Nat) (h:u.heap[g]? = some (.cells (iC I) 32))=>show (loadVar 30 ⟨g,0,none⟩).run prog u = .ok (.agg (qC I.f.pt.1)) u from yax _ _ _ _ (yao h).frm)
 have LT:=Bx.mk (fun (u:World) (g:Nat) (h:u.heap[g]? = some (.cells (iC I) 32))=>show (loadVar 30 ⟨g,9,none⟩).run prog u = .ok (.agg (qC I.l.pt.1)) u from yax _ _ _ _ (yao h).upto)
 rw [show iv I = .agg (iC I) from rfl]
 have LX:=Bx.mk (fun (u:World) (g:Nat)=>ld_x (w:=u) (g:=g) (x:=(kQ q hq).1) (t:=30));have SX:=Bx.mk (show (qC (kQ q hq).1).size=9∧(qC (kQ q hq).1).all (·.oneCell')=true from ⟨rfl,ybd _⟩)
 have LQ:=Bx.mk (fun (u:World) (g:Nat)=>ld_q (w:=u) (g:=g) (q:=q) (t:=28));have SQ:=Bx.mk (show (rC q).size=4∧(rC q).all (·.oneCell')=true from ⟨rfl,yaP _⟩)
 rw [kC_qC];replace H2:=Bx.mk (show ∀ w,Calls prog 84 #[.agg (rC q)] w fun e w'=>e = .returned (.agg (qC (kQ q hq).1))∧Keep [] w w' from H2.out)
 generalize qC (kQ q hq).1=Z at *;generalize rC q=Q at *;generalize qC I.f.pt.1=X at *;generalize qC I.l.pt.1=Y at *;generalize iC I=C at *;go_enter func23,ntmps23
 go_upto_region 1 with (fail)
 obtain⟨W,ga,gb,hW,ega,egb,Bga,Bgb,hga,hgb,hgW,HkW⟩:=al2h w (.cells C 32) (.cells #[.bool false,.string ⟨#[]⟩,.bool false,.string ⟨#[]⟩,.bool false,.string ⟨#[]⟩,.bool false,.string ⟨#[]⟩,.bool false] 30);rw [← hW];try rw [egb]
 try rw [ega]
 clear hW ega egb;have HB:Hid (Bl w W):=jX (Bl.of HkW.out);clear HkW;refine wp_region_lit ?_;refine wV ?_;go_simp;refine wX ⟨ga,0,none⟩ (LF.out _ _ Bga.out) ?_;go_simp;refine wV ?_;go_simp;refine wX ⟨ga,9,none⟩ (LT.out _ _ Bga.out) ?_;go_simp;refine wE 83 #[.agg X,.agg Y] (H1.out _) (fun w1 hb=>?_);go_simp;refine fO ?_;have hb:Bl W w1:=hb;have HB:=jX (HB.out.trans hb);have Bga:=jX (hb.heap Bga.out);have Bgb:=jX (hb.heap Bgb.out);clear hb;refine wV ?_;go_simp;refine wV ?_;go_simp;refine wV ?_;go_simp;refine fO ?_;have z_gc:=HB.out.size;refine wA (ycb _ _ _ rfl) (fun w2 gc e2 b_n _ _ hk3=>?_);go_simp;refine wR gc Q b_n (by rw [SQ.out.1];exact q_size) (by rw [SQ.out.1];rfl) SQ.out.2 (fun w3 b_s k_s=>?_);go_simp;refine fO ?_;have h_gc:w.heap.size≤gc:=by omega
 have hb:Bl w1 w3:=(Bl.of hk3).set k_s (by omega);have HB:=jX (HB.out.trans hb);have n_ga_gc:ga<gc:=by have:=yaa Bga.out;omega
 have n_gb_gc:gb<gc:=by have:=yaa Bgb.out;omega
 have Bga:=jX (hb.heap Bga.out);have Bgb:=jX (hb.heap Bgb.out);have Bgc:=jX b_s;clear hb hk3 k_s b_s b_n e2 z_gc;go_upto_region 4 with (fail)
 refine wp_region_lit ?_;refine wX ⟨gc,0,none⟩ (LQ.out _ _ Bgc.out) ?_;go_simp;refine wE 84 #[.agg Q] (H2.out _) (fun w4 hb=>?_);go_simp;refine fO ?_;have hb:Bl w3 w4:=Bl.of hb;have HB:=jX (HB.out.trans hb);have Bga:=jX (hb.heap Bga.out);have Bgb:=jX (hb.heap Bgb.out);have Bgc:=jX (hb.heap Bgc.out);clear hb;have b_n:=Bgb.out;refine wR gb Z b_n (by rw [SX.out.1];exact k_size) (by rw [SX.out.1];rfl) SX.out.2 (fun w5 b_s k_s=>?_);go_simp;refine fO ?_;have Bga:=jX (k_s.heap Bga.out (by simp;omega));have Bgc:=jX (k_s.heap Bgc.out (by simp;omega));have Bgb:=jX b_s;have HB:Hid (Bl w w5):=jX (HB.out.set k_s (by omega));clear b_n b_s k_s;have hlr:=LX.out _ _ Bgb.out;go_wp2_with fail;refine bodyPost_ret (v:=.agg Z) ?_ rfl ⟨rfl,HB.out⟩;rw [yac rfl];show (Result.ok (⟨gb,0,none⟩:Addr) w5).andThen (fun a w=>(loadVar 30 a).run prog w)=_
 rw [Result.andThen_ok,hlr]
end
section
open Classical
theorem ygv {y:Qn} (hy:y.Ok) (q:Rat):cmpQ y ⟨q,0,false⟩<0↔Above1 q y:=by
 rcases ycm hy (ygr q) with ⟨e,t,h1,h2⟩|⟨e,t,h1,h2⟩|⟨e,h⟩<;>rw [e]
 ·rw [ydZ] at h1
  refine ⟨fun k=>absurd k (by decide),fun k=>?_⟩;have:=ybw hy.nn h2 k;grind
 ·rw [yeg] at h2
  exact ⟨fun _=>h1.mono hy.nn (Rat.le_of_lt h2),fun _=>by decide⟩
 refine ⟨fun k=>absurd k (by decide),fun k=>?_⟩;rw [h,ydZ] at k;grind
theorem yep {x:Qn} {q:Rat} (hx:x.Ok) (h:Above1 q x):Lt x ⟨q,0,false⟩:=by
 have h2:=(ygv hx q).2 h;rcases ycm hx (ygr q) with ⟨e,k⟩|⟨e,k⟩|⟨e,k⟩
 ·rw [e] at h2;omega
 ·exact k
 rw [e] at h2;omega
theorem yer {x:Qn} {q:Rat} (hx:x.Ok) (h:Below1 q x):Lt ⟨q,0,false⟩ x:=by
 have h2:=(ycN hx q).2 h;rcases ycm hx (ygr q) with ⟨e,k⟩|⟨e,k⟩|⟨e,k⟩
 ·exact k
 ·rw [e] at h2;omega
 rw [e] at h2;omega
theorem fit_lt {k:Nat} {z:Int} (h:Fit k z):z.natAbs<256 ^ k:=Fit_iff.1 h
theorem den_int (q:Rat) (m:Nat):∃ i:Int,q*((q.den*m:Nat):Rat)=i:=⟨q.num*m,by
 have:=yaR q;rw [Rat.intCast_natCast] at this
 rw [Rat.natCast_mul,← Rat.mul_assoc,this,Rat.intCast_mul,Rat.intCast_natCast]⟩
theorem yfA (q:Rat) {k:Nat} (h:Fit k q.num) : -((256 ^ k:Nat):Rat)≤q∧q≤((256 ^ k:Nat):Rat):=by
 have h1:=fit_lt h;generalize 256 ^ k=T at *;have hd:=q.den_pos;have e:=yaR q;rw [Rat.intCast_natCast] at e;have hdr:(0:Rat)<(q.den:Rat):=yaz hd
 have hT:((q.num:Int):Rat)≤((T:Nat):Rat) ∧ -((T:Nat):Rat)≤((q.num:Int):Rat):=by
  have a1:=(yaB (a:=q.num) (b:=(T:Int))).2 (by omega);have a2:=(yaB (a:=-(T:Int)) (b:=q.num)).2 (by omega);rw [Rat.intCast_natCast] at a1;rw [Rat.intCast_neg,Rat.intCast_natCast] at a2;exact ⟨a1,a2⟩
 have h1d:(1:Rat)≤(q.den:Rat):=by
  have:=(yaB (a:=1) (b:=(q.den:Int))).2 (by omega);rw [Rat.intCast_natCast] at this;exact this
 have hT0:(0:Rat)≤((T:Nat):Rat):=by
  have:=(yaB (a:=0) (b:=(T:Int))).2 (by omega);rw [Rat.intCast_natCast] at this;exact this
 generalize ((q.num:Int):Rat)=n at *;generalize (q.den:Rat)=d at *;generalize ((T:Nat):Rat)=t at *
 have hk:t≤t*d:=by
  have:=Rat.mul_le_mul_of_nonneg_left h1d hT0;grind
 constructor
 ·refine Rat.not_lt.1 fun hlt=>?_
  have:=Rat.mul_lt_mul_of_pos_right hlt hdr;grind
 refine Rat.not_lt.1 fun hlt=>?_;have:=Rat.mul_lt_mul_of_pos_right hlt hdr;grind
theorem ht_fit {s m l:Nat} {x:Qn} (hx:x.Ok) (h:FitR s x):Ht ((x.p.den*m:Nat):Rat) ((x.r.den*l:Nat):Rat) ((256 ^ s:Nat):Rat) x:=by
 have h1:=yfA x.p h.1.1;have h2:=yfA x.r h.2.1;refine ⟨hx,den_int _ _,den_int _ _,h1.1,h1.2,Rat.le_trans h2.2 ?_⟩
 have:(1:Rat)≤((256 ^ s:Nat):Rat):=by
  have:=(yaB (a:=1) (b:=((256 ^ s:Nat):Int))).2 (by have:=Nat.pow_pos (n:=s) (show 0<256 by decide);omega)
  rw [Rat.intCast_natCast] at this;exact this
 generalize ((256 ^ s:Nat):Rat)=t at *;have:=Rat.mul_le_mul_of_nonneg_left this (show (0:Rat)≤t by grind)
 grind
theorem ht_comm {m l:Nat} {B:Rat} {x:Qn} {m' l':Nat} (h:Ht (m:Rat) (l:Rat) B x) (hm:m=m') (hl:l=l'):Ht (m':Rat) (l':Rat) B x:=by
 subst hm hl;exact h
end
section
open Go.ChangeShapes Go.WideShapes Go.ChangeAt
def PartsAt (w:World) (sv:Value) (l:List PartA):Prop :=
 (∃ a cap,sv = .slice a 0 cap∧l=[]) ∨
 ∃ lb lo cap,sv = .slice (some ⟨lb,lo,none⟩) l.length cap∧l.length≤maxLen∧∀ i (h:i<l.length),w.cell? ⟨lb,lo+i*2,none⟩=some (.int .u8 l[i].a)∧w.cell? ⟨lb,lo+i*2+1,none⟩=some (.int .u8 l[i].b)
def fvcells (s:Value) (e:EvA):List Value:=[s,.int .u8 e.o,.int .u8 e.g,.int .u8 e.w,.int .u8 e.r]
def EvsAt (w:World) (sv:Value) (l:List EvA):Prop :=
 (∃ a cap,sv = .slice a 0 cap∧l=[]) ∨
 ∃ lb lo cap,sv = .slice (some ⟨lb,lo,none⟩) l.length cap∧l.length≤maxLen∧∀ i (h:i<l.length),∃ s,(∀ j v,(fvcells s l[i])[j]? = some v→w.cell? ⟨lb,lo+i*5+j,none⟩=some v)∧PartsAt w s l[i].ps
theorem cells_Part:prog.cellsOf 135=2:=by kernel_rfl
theorem cells_Parts:prog.cellsOf 78=1:=by kernel_rfl
theorem cells_Event:prog.cellsOf 80=5:=by kernel_rfl
section
variable {H:Type} {enc:TypeId × Value→H} {w:World} {base:Nat} {held:Bool} {fuel:Nat}
theorem part_trod {cs:List Value} {x:DataW H × List MemPlace} (h:DataW.trod enc prog w base (fun _=>true) held fuel 135 cs=some x):∃ p:PartA,cs=[.int .u8 p.a,.int .u8 p.b]:=by
 obtain⟨xs,n,_,rfl,hl,hlen,hf⟩:=DataW.trod_array underlying135 h;rw [cells_Part] at hl
 match cs,hl with
 | [c0,c1],_ =>
  match xs,hlen with
  | [x0,x1],_ =>
   have h0:=hf 0 (by decide);have h1:=hf 1 (by decide);rw [cells_u8] at h0 h1;obtain⟨n0,e0,_,w0⟩:=DataW.trod_int underlying5 h0;obtain⟨n1,e1,_,w1⟩:=DataW.trod_int underlying5 h1;simp at e0 e1;subst e0 e1;have b0:=bounds_u8 w0;have b1:=bounds_u8 w1;refine ⟨⟨n0.toNat,n1.toNat,by omega,by omega⟩,?_⟩;simp [Int.toNat_of_nonneg b0.1,Int.toNat_of_nonneg b1.1]
theorem yjs {sv:Value} {x:DataW H × List MemPlace} (h:DataW.trod enc prog w base (fun _=>true) held fuel 78 [sv]=some x):∃ l,PartsAt w sv l:=by
 rcases Go.Deep.open_slice underlying78 h with ⟨hcs,_⟩|⟨a,len,cap,m,n,D,Pl,hcs,_,hl,hm,hmm,_,hel⟩
 ·simp at hcs;exact ⟨[],.inl ⟨none,0,hcs,rfl⟩⟩
 simp at hcs hmm;by_cases h0:len=0
 ·subst h0;exact ⟨[],.inl ⟨_,cap,hcs,rfl⟩⟩
 have hall:∀ i,i<cap→∃ p:PartA,w.cells? base (a.add (i*2)) 2=some [.int .u8 p.a,.int .u8 p.b]:=by
  intro i hi;obtain⟨cs',h1,h2⟩:=hel i (by omega);rw [cells_Part] at h1;obtain⟨p,rfl⟩:=part_trod h2;exact ⟨p,h1⟩
 obtain⟨s0,_⟩:=hall 0 (by omega)
 have hfun:∃ f:Nat→PartA,∀ i,i<cap→w.cells? base (a.add (i*2)) 2=some [.int .u8 (f i).a,.int .u8 (f i).b] :=
  ⟨fun i=>if h:i<cap then Classical.choose (hall i h) else s0,fun i hi=>by simp only [hi,dif_pos];exact Classical.choose_spec (hall i hi)⟩
 obtain⟨f,hf⟩:=hfun;have hc0:=(cells?_get (hf 0 (by omega))).2 0 (by omega);obtain⟨b,off,hp⟩:=ydI (v:=.int .u8 (f 0).a) (by simpa using hc0);have ha:a=⟨b,off,none⟩:=by unfold Addr.add at hp;simpa using hp
 subst ha;refine ⟨(List.range len).map f,.inr ⟨b,off,cap,by simpa using hcs,by simp;omega,fun i hi=>?_⟩⟩;have hil:i<len:=by simpa using hi
 have hc:=(cells?_get (hf i (by omega))).2;have c0:=hc 0 (by omega);have c1:=hc 1 (by omega);rw [ycJ,ycJ] at c0 c1;simp only [List.getElem_map,List.getElem_range];exact ⟨by simpa using c0,by simpa using c1⟩
theorem yjf {cs:List Value} {x:DataW H × List MemPlace} (h:DataW.trod enc prog w base (fun _=>true) held fuel 80 cs=some x):∃ (s:Value) (e:EvA),cs=fvcells s e∧PartsAt w s e.ps:=by
 obtain⟨xs,n,_,rfl,hl,hlen,hf⟩:=DataW.trod_struct underlying80 h;rw [cells_Event] at hl
 match cs,hl with
 | [c0,c1,c2,c3,c4],_ =>
  match xs,hlen with
  | [x0,x1,x2,x3,x4],_ =>
   have h0:DataW.trod enc prog w base (fun _=>true) held n 78 (([c0,c1,c2,c3,c4].drop 0).take (prog.cellsOf 78))=some x0:=hf 0 _ rfl;have h1:DataW.trod enc prog w base (fun _=>true) held n 5 (([c0,c1,c2,c3,c4].drop 1).take (prog.cellsOf 5))=some x1:=hf 1 _ rfl;have h2:DataW.trod enc prog w base (fun _=>true) held n 5 (([c0,c1,c2,c3,c4].drop 2).take (prog.cellsOf 5))=some x2:=hf 2 _ rfl;have h3:DataW.trod enc prog w base (fun _=>true) held n 5 (([c0,c1,c2,c3,c4].drop 3).take (prog.cellsOf 5))=some x3:=hf 3 _ rfl;have h4:DataW.trod enc prog w base (fun _=>true) held n 5 (([c0,c1,c2,c3,c4].drop 4).take (prog.cellsOf 5))=some x4:=hf 4 _ rfl;rw [cells_Parts] at h0;rw [cells_u8] at h1 h2 h3 h4;obtain⟨ps,hps⟩:=yjs (sv:=c0) (by simpa using h0);obtain⟨n1,e1,_,w1⟩:=DataW.trod_int underlying5 h1;obtain⟨n2,e2,_,w2⟩:=DataW.trod_int underlying5 h2;obtain⟨n3,e3,_,w3⟩:=DataW.trod_int underlying5 h3;obtain⟨n4,e4,_,w4⟩:=DataW.trod_int underlying5 h4;simp at e1 e2 e3 e4;subst e1 e2 e3 e4;have b1:=bounds_u8 w1;have b2:=bounds_u8 w2;have b3:=bounds_u8 w3;have b4:=bounds_u8 w4;refine ⟨c0,⟨ps,n1.toNat,n2.toNat,n3.toNat,n4.toNat,by omega,by omega,by omega,by omega⟩,?_,hps⟩;simp [fvcells,Int.toNat_of_nonneg b1.1,Int.toNat_of_nonneg b2.1,Int.toNat_of_nonneg b3.1,Int.toNat_of_nonneg b4.1]
theorem evs_trod {sv:Value} {x:DataW H × List MemPlace} (h:DataW.trod enc prog w base (fun _=>true) held fuel 60 [sv]=some x):∃ l,EvsAt w sv l:=by
 rcases Go.Deep.open_slice underlying60 h with ⟨hcs,_⟩|⟨a,len,cap,m,n,D,Pl,hcs,_,hl,hm,hmm,_,hel⟩
 ·simp at hcs;exact ⟨[],.inl ⟨none,0,hcs,rfl⟩⟩
 simp at hcs hmm;by_cases h0:len=0
 ·subst h0;exact ⟨[],.inl ⟨_,cap,hcs,rfl⟩⟩
 have hall:∀ i,i<cap→∃ p:Value × EvA,w.cells? base (a.add (i*5)) 5=some (fvcells p.1 p.2)∧PartsAt w p.1 p.2.ps:=by
  intro i hi;obtain⟨cs',h1,h2⟩:=hel i (by omega);rw [cells_Event] at h1;obtain⟨s,e,rfl,h3⟩:=yjf h2;exact ⟨(s,e),h1,h3⟩
 obtain⟨s0,_⟩:=hall 0 (by omega)
 have hfun:∃ f:Nat→Value × EvA,∀ i,i<cap→w.cells? base (a.add (i*5)) 5=some (fvcells (f i).1 (f i).2)∧PartsAt w (f i).1 (f i).2.ps :=
  ⟨fun i=>if h:i<cap then Classical.choose (hall i h) else s0,fun i hi=>by simp only [hi,dif_pos];exact Classical.choose_spec (hall i hi)⟩
 obtain⟨f,hf⟩:=hfun;have hc0:=(cells?_get (hf 0 (by omega)).1).2 0 (by omega);obtain⟨b,off,hp⟩:=ydI (v:=(f 0).1) (by simpa [fvcells] using hc0);have ha:a=⟨b,off,none⟩:=by unfold Addr.add at hp;simpa using hp
 subst ha;refine ⟨(List.range len).map fun i=>(f i).2,.inr ⟨b,off,cap,by simpa using hcs,by simp;omega,fun i hi=>?_⟩⟩;have hil:i<len:=by simpa using hi
 obtain⟨k1,k2⟩:=hf i (by omega);refine ⟨(f i).1,fun j v hj=>?_,?_⟩
 ·have hj5:j<5:=(List.getElem?_eq_some_iff.1 hj).1
  have hc:=(cells?_get k1).2 j hj5;rw [ycJ,ycJ] at hc;rw [hc]
  simpa using hj
 simp only [List.getElem_map,List.getElem_range];exact k2
end
def EvsArg (w:World) (v:Value):Prop:=∃ l,EvsAt w v l
theorem EvsArg_open {H:Type} {enc:TypeId × Value→H} {W:World} {v:Value} {base:Nat} {d:DataW H} {p:List MemPlace} (hv:Value.okWide prog W .any base 60 v)
  (h:∃ m,DataW.trod enc prog W 0 (fun _=>true) true m 60 v.cells.toList=some (d,p)):EvsArg W v:=by
 obtain⟨a,len,cap,rfl⟩:=okWide_slice underlying60 hv;obtain⟨m,hm⟩:=h;exact evs_trod hm
theorem PartsAt.form {w:World} {sv:Value} {l:List PartA} (h:PartsAt w sv l):∃ a c,sv = .slice a l.length c∧l.length≤maxLen:=by
 rcases h with ⟨a,cap,rfl,rfl⟩|⟨b,o,cap,rfl,hl,_⟩
 ·exact ⟨a,cap,by simp,by simp⟩
 exact ⟨_,_,rfl,hl⟩
theorem PartsAt.elem {w:World} {a:Option Addr} {n c:Nat} {l:List PartA} (h:PartsAt w (.slice a n c) l) (i:Nat) (hi:i<l.length) :
  ∃ b o,a=some ⟨b,o,none⟩∧b<w.heap.size∧w.cell? ⟨b,o+i*2,none⟩=some (.int .u8 l[i].a)∧w.cell? ⟨b,o+i*2+1,none⟩=some (.int .u8 l[i].b):=by
 rcases h with ⟨a',cap,e,rfl⟩|⟨b,o,cap,e,hl,hz⟩
 ·simp at hi
 have e1:a=some ⟨b,o,none⟩:=by injection e
 exact ⟨b,o,e1,World.block_lt_of_cell? w _ (hz i hi).1,hz i hi⟩
theorem PartsAt.later {w w':World} {v:Value} {l:List PartA} (h:PartsAt w v l) (hk:Below w.heap.size w w'):PartsAt w' v l:=by
 rcases h with h|⟨b,o,cap,rfl,hl,hz⟩
 ·exact .inl h
 refine .inr ⟨b,o,cap,rfl,hl,fun i hi=>?_⟩;have hb:=hk.block b (World.block_lt_of_cell? w _ (hz i hi).1);exact ⟨(World.cell?_of_block hb).trans (hz i hi).1,(World.cell?_of_block hb).trans (hz i hi).2⟩
theorem EvsAt.form {w:World} {sv:Value} {l:List EvA} (h:EvsAt w sv l):∃ a c,sv = .slice a l.length c∧l.length≤maxLen:=by
 rcases h with ⟨a,cap,rfl,rfl⟩|⟨b,o,cap,rfl,hl,_⟩
 ·exact ⟨a,cap,by simp,by simp⟩
 exact ⟨_,_,rfl,hl⟩
theorem EvsAt.elem {w:World} {a:Option Addr} {n c:Nat} {l:List EvA} (h:EvsAt w (.slice a n c) l) (i:Nat) (hi:i<l.length) :
  ∃ b o pa pc,a=some ⟨b,o,none⟩∧b<w.heap.size∧(∀ j v,(fvcells (.slice pa l[i].ps.length pc) l[i])[j]? = some v→w.cell? ⟨b,o+i*5+j,none⟩=some v)∧PartsAt w (.slice pa l[i].ps.length pc) l[i].ps:=by
 rcases h with ⟨a',cap,e,rfl⟩|⟨b,o,cap,e,hl,hz⟩
 ·simp at hi
 have e1:a=some ⟨b,o,none⟩:=by injection e
 obtain⟨s,h1,h2⟩:=hz i hi;obtain⟨pa,pc,rfl,_⟩:=h2.form;exact ⟨b,o,pa,pc,e1,World.block_lt_of_cell? w _ (h1 0 _ rfl),h1,h2⟩
theorem EvsAt.later {w w':World} {v:Value} {l:List EvA} (h:EvsAt w v l) (hk:Below w.heap.size w w'):EvsAt w' v l:=by
 rcases h with h|⟨b,o,cap,rfl,hl,hz⟩
 ·exact .inl h
 refine .inr ⟨b,o,cap,rfl,hl,fun i hi=>?_⟩;obtain⟨s,h1,h2⟩:=hz i hi;have hb:=hk.block b (World.block_lt_of_cell? w _ (h1 0 _ rfl));refine ⟨s,fun j v hj=>?_,h2.later hk⟩;exact (World.cell?_of_block hb).trans (h1 j v hj)
end
section
open Go.RowKit Go.Lib
theorem sgn_two:sgn (2:Rat)=1:=by decide
theorem Make2_c (p:Rat) (hp:FitQ 1000 p) (n:Int) (hn:n.natAbs≤1000) (h0:0≤n) (w:World) :
  Calls Tryz.prog 104 #[rv p,rv (n:Rat),rv (2:Rat)] w fun e w'=>e = .returned (.tuple #[qv ⟨p,(n:Rat)*n*2,false⟩,.int .i64 0])∧Below w.heap.size w w':=by
 have f2:FitQ 2 (2:Rat):=ybM (n:=2) (by decide);have fn:=ybM (n:=n) (by omega);have H1:=jX (QSign_c (2:Rat));rw [sgn_two] at H1
 have H2:Hid (∀ u,Calls Tryz.prog 125 #[rv (2:Rat)] u fun e w'=>∃ q,e = .returned (.tuple #[rv q,.bool false])∧Below u.heap.size u w'):=fun u=>by
  refine (proot_p 2 (f2.mono (by decide)) u).mono ?_;rintro e w' ⟨q,ok,rfl,hq,hb⟩;cases ok with
  | false=>exact ⟨q,rfl,hb⟩
  | true=>exact absurd (hq.1 rfl).2 (two_sq q)
 have H3:=jX (QMul_c (n:Rat) n (fn.mono (by decide)) (fn.mono (by decide)));have H4:=jX (QMul_c ((n:Rat)*n) 2 ((FitQ.mul fn fn).mono (by decide)) (f2.mono (by decide)));have H5:=jX (QSign_c (n:Rat))
 have hn0:(0:Rat)≤(n:Rat):=by
  have:=(yaB (a:=0) (b:=n)).2 h0
  simpa using this
 have hs:decide (sgn (n:Rat)<0)=false:=by
  rw [decide_eq_false_iff_not];rcases yaX (n:Rat) with ⟨h,h2⟩|⟨h,h2⟩|⟨h,h2⟩<;>rw [h2]<;>first|grind|decide
 generalize sgn (n:Rat)=sn at *;unfold qv rv at *;dsimp only;generalize sgB ((n:Rat)*n*2).num=n1 at *;generalize mgS ((n:Rat)*n*2).num=s1 at *;generalize dnS ((n:Rat)*n*2).den=d1 at *;generalize sgB ((n:Rat)*n).num=n2 at *;generalize mgS ((n:Rat)*n).num=s2 at *;generalize dnS ((n:Rat)*n).den=d2 at *;generalize sgB (((n:Rat))).num=n3 at *;generalize mgS (((n:Rat))).num=s3 at *;generalize dnS (((n:Rat))).den=d3 at *;generalize sgB ((2:Rat)).num=n4 at *;generalize mgS ((2:Rat)).num=s4 at *;generalize dnS ((2:Rat)).den=d4 at *;generalize sgB (p).num=n5 at *;generalize mgS (p).num=s5 at *;generalize dnS (p).den=d5 at *;have HB:=jX (yhY (.bool n5) (.string s5) (.bool false) (.string d5) (.bool n1) (.string s1) (.bool false) (.string d1) false);clear f2 fn hp hn h0 hn0;go_enter Tryz.func104,Tryz.ntmps104
 go_upto_region 1 with (fail)
 obtain⟨W,ga,gb,gc,gd,hW,ega,egb,egc,egd,Bga,Bgb,Bgc,Bgd,hga,hgb,hgc,hgd,hgW,HkW⟩:=al4h w (.cells #[.bool n5,.string s5,.bool false,.string d5] 28) (.cells #[.bool n3,.string s3,.bool false,.string d3] 28) (.cells #[.bool n4,.string s4,.bool false,.string d4] 28) (.cells #[.bool false,.string ⟨#[]⟩,.bool false,.string ⟨#[]⟩,.bool false,.string ⟨#[]⟩,.bool false,.string ⟨#[]⟩,.bool false] 30);rw [← hW];try rw [egd]
 try rw [egc]
 try rw [egb]
 try rw [ega]
 clear hW ega egb egc egd;obtain⟨pgc,fgc,lgc⟩:=jQ Bgc;go_wp2_with fail;refine (H1.out _).mono ?_;rintro e w1 ⟨rfl,hk1⟩;dsimp only;clear pgc fgc lgc;replace Bga:=jH hk1 Bga;replace Bgb:=jH hk1 Bgb;replace Bgc:=jH hk1 Bgc;replace Bgd:=jH hk1 Bgd;replace HkW:=jX (HkW.out.tz hk1);clear hk1;go_upto_region 3 with (fail)
 obtain⟨pgc,fgc,lgc⟩:=jQ Bgc;go_wp2_with fail;refine (H2.out _).mono ?_;rintro e w2 ⟨q,rfl,hb2⟩;dsimp only;clear pgc fgc lgc;have B2ga:=jX ((hb2.block ga (yaa Bga.out)).trans Bga.out);clear Bga;have Bga:=B2ga;clear B2ga;have B2gb:=jX ((hb2.block gb (yaa Bgb.out)).trans Bgb.out);clear Bgb;have Bgb:=B2gb;clear B2gb;have B2gc:=jX ((hb2.block gc (yaa Bgc.out)).trans Bgc.out);clear Bgc;have Bgc:=B2gc;clear B2gc;have B2gd:=jX ((hb2.block gd (yaa Bgd.out)).trans Bgd.out);clear Bgd;have Bgd:=B2gd;clear B2gd;have HBW:=jX (HkW.out.bz.trans (Below.mono hb2 HkW.out.size));clear hb2;generalize sgB (q).num=n6 at *;generalize mgS (q).num=s6 at *;generalize dnS (q).den=d6 at *;go_upto_region 6 with (fail)
 obtain⟨W2,ge,hW2,ege,bge,hge,hgW2,hkW2⟩:=al1 w2 (.cells #[.bool n6,.string s6,.bool false,.string d6] 28);rw [← hW2];try rw [ege]
 have Bge:=jX bge;clear hW2 ege bge;have Bga:=jX (hkW2.heap Bga.out (by simp));have Bgb:=jX (hkW2.heap Bgb.out (by simp));have Bgc:=jX (hkW2.heap Bgc.out (by simp));have Bgd:=jX (hkW2.heap Bgd.out (by simp));have HBW:=jX (HBW.out.trans (Below.mono hkW2.bz HBW.out.size));clear hkW2;have Q1:Hid (∀ m:KW W2,Calls Tryz.prog 131 #[.agg #[.bool n3,.string s3,.bool false,.string d3],.agg #[.bool n3,.string s3,.bool false,.string d3]] (Wk W2 m) fun e w'=>e = .returned (.agg #[.bool n2,.string s2,.bool false,.string d2])∧∃ m,w'=Wk W2 m):=fun m=>qk m (H3.out _);have Q2:Hid (∀ m:KW W2,Calls Tryz.prog 131 #[.agg #[.bool n2,.string s2,.bool false,.string d2],.agg #[.bool n4,.string s4,.bool false,.string d4]] (Wk W2 m) fun e w'=>e = .returned (.agg #[.bool n1,.string s1,.bool false,.string d1])∧∃ m,w'=Wk W2 m):=fun m=>qk m (H4.out _);have Q3:Hid (∀ m:KW W2,Calls Tryz.prog 121 #[.agg #[.bool n3,.string s3,.bool false,.string d3]] (Wk W2 m) fun e w'=>e = .returned (.int .i64 sn)∧∃ m,w'=Wk W2 m):=fun m=>qk m (H5.out _);have kga:=yag Bga.out;have kgb:=yag Bgb.out;have kgc:=yag Bgc.out;clear H1 H2 H3 H4 H5;refine yah 10 (by kernel_rfl) (by kernel_rfl) ?_;simp only [List.take_succ_cons,List.take_zero,List.drop_succ_cons,List.drop_zero]
 repeat (first
  | go_big_quiet_skip
  | (go_big_quiet_want;first
   | (refine ybo _ _ #[(0,.agg #[.bool n5,.string s5,.bool false,.string d5]),(1,.agg #[.bool n1,.string s1,.bool false,.string d1]),(2,.bool false)] (#[.bool n5,.string s5,.bool false,.string d5,.bool n1,.string s1,.bool false,.string d1,.bool false]) rfl (by simp only [List.map_toArray,List.map_cons,List.map_nil];rfl) HB.out ?_;go_simp;go_big_quiet_on)
   | (go_big_quiet_op;first|go_big_quiet_on|go_big_quiet_call (first
    | (go_at_call 131;with_reducible exact (Q1).out _)|(go_at_call 131;with_reducible exact (Q2).out _)|(go_at_call 121;with_reducible exact (Q3).out _)))))
 refine wpQuiet_nil ?_;rintro w3 ⟨⟨_,hk_w3⟩,rfl⟩;have Bgd:=jX (hk_w3.heap Bgd.out (by simp));obtain⟨b0,hbs,hbk,hbf⟩:=below_via (HBW.out.trans (Below.mono hk_w3.bz HBW.out.size));have HkW:=jX hbk;have Hbf:=jX hbf;clear hk_w3 hbk hbf;obtain⟨pgd,fgd,lgd⟩:=jQ Bgd;go_wp2_with fail;refine bodyPost_ret (v:=.tuple #[.agg #[.bool n5,.string s5,.bool false,.string d5,.bool n1,.string s1,.bool false,.string d1,.bool false],.int .i64 0]) ?_ rfl ⟨rfl,?_⟩;rw [results_cell_tmp rfl];go_simp;exact Hbf.out _ (by repeat (first|(with_reducible exact HkW.out)|(refine Keep.sP ?_ _ _ _ (by omega))|(refine Keep.aP ?_ _)|(refine Keep.dP ?_)))
end
end Go.Proofs.YtpgffjjpiafhpaaGreatDoor
