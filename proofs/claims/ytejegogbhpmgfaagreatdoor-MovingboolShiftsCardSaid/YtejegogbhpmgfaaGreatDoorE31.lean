/- Parts of a proof: Tk Ue Uf Sw Sx Ug Uh Ui Va. -/
import Derived.Deep.Slices
import Derived.Lib.SmallJoins
import Derived.Test.YtejegogbhpmgfaaGreatDoorE30
import Derived.Test.YtejegogbhpmgfaaGreatDoorE17
import Derived.Test.YtejegogbhpmgfaaGreatDoorE29
import Derived.Test.YtejegogbhpmgfaaGreatDoorE24
import Derived.Test.YtejegogbhpmgfaaGreatDoorE26
import Derived.Test.YtejegogbhpmgfaaGreatDoorE12
set_option linter.unusedVariables false
set_option linter.unusedSimpArgs false
set_option maxRecDepth 100000
set_option maxHeartbeats 8000000
namespace Go.Proofs.YtejegogbhpmgfaaGreatDoor
open Go.RowKit Tryz
def ybi (s:SpanA):List Value:=[.int .u8 s.a.P,.int .u8 s.a.D,.int .u8 s.a.R,.int .u8 s.a.E,.bool s.a.neg,.int .u8 s.b.P,.int .u8 s.b.D,.int .u8 s.b.R,.int .u8 s.b.E,.bool s.b.neg,.bool s.oa,.bool s.ob]
theorem yda (s:SpanA):(ybi s).length=12:=rfl
abbrev SpR:=RowE (fun s:SpanA=>ybi s)
theorem infoSpan:∃ ie,prog.info? 129=some ie∧ie.size=12:=by
 have h:(prog.info? 129).map (·.size)=some 12:=by kernel_rfl
 cases hi:prog.info? 129 with
 | none=>rw [hi] at h;cases h
 | some ie=>rw [hi] at h;exact ⟨ie,rfl,by simpa using h⟩
theorem load_span (w:World) (b o:Nat) (s:SpanA) (hc:∀ k v,(ybi s)[k]? = some v→w.cell? ⟨b,o+k,none⟩=some v):(loadVar 129 ⟨b,o,none⟩).run prog w = .ok s.v w:=by
 obtain⟨ie,hie,hs⟩:=infoSpan;exact Go.Lib.rl_loadVar_cells 129 ie hie isAgg129 b o (ybi s) (by rw [hs];rfl) w hc
theorem SpR.elem {w:World} {a:Option Addr} {n c:Nat} {l:List SpanA} (h:SpR w (.slice a n c) l) (i:Nat) (hi:i<l.length):∃ g o,a=some ⟨g,o,none⟩∧g<w.heap.size∧∀ j v,(ybi l[i])[j]? = some v→w.cell? ⟨g,o+i*12+j,none⟩=some v:=RowE.elem yda h i hi
theorem span_keep {w w':World} {g p:Nat} {s:SpanA} (h:∀ j v,(ybi s)[j]? = some v→w.cell? ⟨g,p+j,none⟩=some v) (hb:w'.heap[g]? = w.heap[g]?):∀ j v,(ybi s)[j]? = some v→w'.cell? ⟨g,p+j,none⟩=some v:=fun j v hj=>by
 rw [World.cell?_of_block hb];exact h j v hj
def SpQ (w:World) (v:Value) (l:List SpanA):Prop:=∃ (a:Option Addr) (c:Nat),v = .slice a l.length c∧(l=[]∨SpR w v l)
theorem SpQ.elem {w:World} {a:Option Addr} {n c:Nat} {l:List SpanA} (h:SpQ w (.slice a n c) l) (i:Nat) (hi:i<l.length):∃ g o,a=some ⟨g,o,none⟩∧g<w.heap.size∧∀ j v,(ybi l[i])[j]? = some v→w.cell? ⟨g,o+i*12+j,none⟩=some v:=by
 obtain⟨_,_,_,h|h⟩:=h
 ·subst h;simp at hi
 exact SpR.elem h i hi
theorem SpQ.later {w w':World} {v:Value} {l:List SpanA} (h:SpQ w v l) (hk:Keep [] w w'):SpQ w' v l:=by
 obtain⟨a,c,h1,h2⟩:=h;exact ⟨a,c,h1,h2.imp id (fun h=>h.later hk)⟩
noncomputable def ivsOf (l:List SpanA):List (Iv K):=(l.take 8).map SpanA.i
theorem yhO (l:List SpanA) (w:World) (sv:Value) (hr:SpQ w sv l) (h9:l.length≤9223372036854775807) :
  Calls prog 89 #[sv] w fun e w'=>∃ v,e = .returned v∧IvR w' v (ivsOf l)∧Keep [] w w':=by
 have HR:=jX hr;have HC:=jX (fun s w=>yjR s w);obtain⟨ao,ac,rfl,_⟩:=hr;go_enter func89,ntmps89
 go_wp2_with fail;go_loopw [3,4] (fun ov c wr=>∃ k:Nat,k≤l.length∧k≤8∧c = .int .i64 (k:Int)∧OI_ w wr ov ((l.take k).map SpanA.i)) (fun _ c _=>l.length-(intOf c).toNat)
 case atStart=>exact ⟨0,Nat.zero_le _,Nat.zero_le _,rfl,OE.nil w⟩
 case round =>
  obtain⟨k,hk,hk8,rfl,hov⟩:=hrel;obtain⟨out,hout⟩:∃ out,(l.take k).map SpanA.i=out:=⟨_,rfl⟩;rw [hout] at hov;have Hlen:=jX (show out.length=k by rw [← hout,List.length_map,List.length_take,Nat.min_eq_left hk])
  have Hout:=jX hout;have HO:=jX hov;obtain⟨oo,oc,rfl⟩:=hov.form;clear hov hout;by_cases hlt:k<l.length
  ·by_cases hlt8:k<8
   ·obtain⟨g,o,rfl,hg,hat⟩:=SpQ.elem HR.out k hlt
    have Hstep:Hid ((l.take (k+1)).map SpanA.i=(l.take k).map SpanA.i++[l[k].i]):=by rw [List.take_succ_eq_append_getElem hlt,List.map_append];rfl
    generalize l[k]=s at *;obtain⟨p,hp⟩:∃ p,o+k*12=p:=⟨_,rfl⟩;rw [hp] at hat;have HL:=jX (load_span wr g p s (span_keep hat (HO.out.keep.block g hg (by simp))));have H1:=jX (HC.out s);clear hat;go_upto_region 5 with (fail)
    refine wp_region_lit ?_;refine' yad (v:=_) (by rfl) (?ha) (fun K hK=>?ka)
    case ha=>(go_simp;try rfl)
    go_simp;refine hK _ _ ?_;clear hK K;refine' yad (v:=_) (by rfl) (?hb) (fun K hK=>?kb)
    case hb=>(go_simp;try rfl)
    go_simp;refine hK _ _ ?_;clear hK K;refine' yad (v:=_) (by rfl) (?hc) (fun K hK=>?kc)
    case hc=>(go_simp;try rfl)
    go_simp;refine hK _ _ ?_;clear hK K;refine' yad (v:=_) (by rfl) (?hd) (fun K hK=>?kd)
    case hd=>(go_simp;try rfl)
    go_simp;refine hK _ _ ?_;clear hK K;refine yad (v:=s.v) (by rfl) (yak _ _ ⟨g,p,none⟩ _ rfl rfl HL.out) (fun K hK=>?_);go_simp;refine hK _ _ ?_;clear hK K;refine wpList_plain (by rfl) (fun K hK=>?_);refine yae 131 #[s.v] (by go_simp) ?_;refine (H1.out _).mono ?_;rintro e w5 ⟨rfl,hk5⟩;refine ⟨_,rfl,?_⟩;go_simp;refine hK _ _ ?_;clear hK K;obtain⟨ub,gx,e3,e4,hz1,hkx,hx⟩:=IvR.single s.i w5;have hW:=hk5.tz hkx;refine yar (v:=.slice (some ⟨w5.heap.size,0,none⟩) 1 1) (by rfl) (yaF 27 1 #[(0,.tmp 20)] #[(0,iv s.i)] _ rfl (by simp only [List.map_toArray,List.map_cons,List.map_nil];rfl) (ybp s.i _)) (fun K hK=>?_);rw [e3,e4];clear e3;go_simp;refine hK _ _ ?_;clear hK K;obtain⟨v4,u4,hr4,ho4,hn4,_⟩:=IvR.app (ty:=27) (HO.out.later hW) (.inr (by simp)) hx (by rw [Hlen.out];simp;omega);refine yar (by rfl) (yav (.tmp 15) (.tmp 21) 27 _ _ _ rfl rfl rfl hr4) (fun K hK=>?_);go_simp;refine hK _ _ ?_;clear hK K hr4 hx hkx hW hk5;have HN:=jX ho4;obtain⟨no,nc,rfl⟩:=ho4.form;clear ho4 hn4;go_wp2_with fail;go_roundw
    case rel=>exact ⟨k+1,by omega,by omega,congrArg (Value.int .i64) (by omega),by rw [Hstep.out,Hout.out];exact HN.out⟩
    case measure=>simp [intOf];omega
   obtain rfl:k=8:=by omega
   have HF:Hid (out=ivsOf l):=Hout.out.symm;go_wp2_with fail;go_ret
   exact ⟨_,rfl,by rw [← HF.out];exact HO.out.read,HO.out.keep⟩
  have hkl:l.take k=l.take 8:=by rw [List.take_of_length_le (by omega),List.take_of_length_le (by omega)]
  have HF:Hid (out=ivsOf l):=by
   unfold ivsOf;rw [← hkl];exact Hout.out.symm
  clear hkl;go_wp2_with fail;go_ret
  exact ⟨_,rfl,by rw [← HF.out];exact HO.out.read,HO.out.keep⟩
theorem yfB {op:Int} {a b out:List (Iv K)} (h1:Norm out) (h2:∀ x,hasL out x=decV op (hasL a x) (hasL b x)):out=yaz op a b:=(ygk h1 h2).symm
theorem Intersect_c (a b:Bool) (w:World):Calls prog 111 #[.bool a,.bool b] w fun e w'=>e = .returned (.bool (decV 2 a b))∧Keep [] w w':=by
 cases a<;>cases b
 all_goals
  go_enter func111,ntmps111
  go_wp2_with fail;go_ret
  exact ⟨rfl,Keep.refl _ _⟩
theorem Intersect_p (a b:List (Iv K)) (ha:∀ i∈a,i.f<i.l) (hb:∀ i∈b,i.f<i.l) (w:World) (sv tv:Value) (hr:IvR w sv a) (hs:IvR w tv b) (h9:a.length≤10000) (h8:b.length≤10000) :
  Calls prog 71 #[sv,tv] w fun e w'=>∃ v,e = .returned v∧IvR w' v (yaz 2 a b)∧Keep [] w w':=by
 have H:=jX (sweep_c (decV 2) 111 (enters_of func111 (by kernel_rfl) rfl) (fun x y w=>Intersect_c x y w) (ydA 2) a b ha hb w sv tv hr hs h9 h8);obtain⟨ao,ac,rfl,_⟩:=hr.form;obtain⟨bo,bc,rfl,_⟩:=hs.form;clear hr hs ha hb;go_enter func71,ntmps71
 go_wp2_with fail;refine H.out.mono ?_;rintro e w1 ⟨v,out,rfl,hv,h1,h2,hk⟩;dsimp only;have HV:=jX (show IvR w1 v (yaz 2 a b) by rw [← yfB h1 h2];exact hv)
 have HK:=jX hk;obtain⟨vo,vc,rfl,_⟩:=hv.form;clear hv h1 h2 hk;go_wp2_with fail;go_ret
 exact ⟨_,rfl,HV.out,HK.out⟩
theorem Minus_c (a b:Bool) (w:World):Calls prog 109 #[.bool a,.bool b] w fun e w'=>e = .returned (.bool (decV 3 a b))∧Keep [] w w':=by
 cases a<;>cases b
 all_goals
  go_enter func109,ntmps109
  go_wp2_with fail;go_ret
  exact ⟨rfl,Keep.refl _ _⟩
theorem Minus_p (a b:List (Iv K)) (ha:∀ i∈a,i.f<i.l) (hb:∀ i∈b,i.f<i.l) (w:World) (sv tv:Value) (hr:IvR w sv a) (hs:IvR w tv b) (h9:a.length≤10000) (h8:b.length≤10000) :
  Calls prog 66 #[sv,tv] w fun e w'=>∃ v,e = .returned v∧IvR w' v (yaz 3 a b)∧Keep [] w w':=by
 have H:=jX (sweep_c (decV 3) 109 (enters_of func109 (by kernel_rfl) rfl) (fun x y w=>Minus_c x y w) (ydA 3) a b ha hb w sv tv hr hs h9 h8);obtain⟨ao,ac,rfl,_⟩:=hr.form;obtain⟨bo,bc,rfl,_⟩:=hs.form;clear hr hs ha hb;go_enter func66,ntmps66
 go_wp2_with fail;refine H.out.mono ?_;rintro e w1 ⟨v,out,rfl,hv,h1,h2,hk⟩;dsimp only;have HV:=jX (show IvR w1 v (yaz 3 a b) by rw [← yfB h1 h2];exact hv)
 have HK:=jX hk;obtain⟨vo,vc,rfl,_⟩:=hv.form;clear hv h1 h2 hk;go_wp2_with fail;go_ret
 exact ⟨_,rfl,HV.out,HK.out⟩
theorem yfV (op:Int) (hop:op=1∨op=2∨op=3) (a b:List (Iv K)) (w:World) (sv tv:Value) (hr:IvR w sv a) (hs:IvR w tv b) (h9:a.length≤10000) (h8:b.length≤10000) :
  Calls prog 50 #[.int .i64 op,sv,tv] w fun e w'=>∃ v,e = .returned v∧IvR w' v (yaz op a b)∧Keep [] w w':=combine_c op hop a b w sv tv hr hs h9 h8
theorem yhm (a:List (Iv K)) (w:World) (sv:Value) (hr:IvR w sv a) (h9:a.length≤10000) :
  Calls prog 88 #[sv] w fun e w'=>∃ v,e = .returned v∧IvR w' v (normK a)∧Keep [] w w':=by
 have H:=jX (yfV 1 (.inl rfl) a [] w sv (.slice none 0 0) hr (RowE.nil w) h9 (by simp));obtain⟨ao,ac,rfl,_⟩:=hr.form;clear hr;go_enter func88,ntmps88
 go_wp2_with fail;refine H.out.mono ?_;rintro e w1 ⟨v,rfl,hv,hk⟩;dsimp only;have HV:=jX hv;have HK:=jX hk;obtain⟨vo,vc,rfl,_⟩:=hv.form;clear hv hk;go_wp2_with fail;go_ret
 exact ⟨_,rfl,HV.out,HK.out⟩
noncomputable def ydS (l:List SpanA):List (Iv K):=normK (ivsOf l)
theorem yhi (l:List SpanA):(ivsOf l).length≤8:=by unfold ivsOf;rw [List.length_map,List.length_take];omega
theorem yfM (l:List SpanA):Norm (ydS l):=ycg _ _ _
theorem perOf_per (l:List SpanA):Per (ptsL (ivsOf l)) (ydS l):=yff _ (PtsIn.self _) (PtsIn.nil _)
theorem yhw (l:List SpanA):(ptsL (ivsOf l)).length≤16:=by rw [ybY];have:=yhi l;omega
theorem lperiod_c (l:List SpanA) (w:World) (sv:Value) (hr:SpQ w sv l) (h9:l.length≤9223372036854775807) :
  Calls prog 45 #[sv] w fun e w'=>∃ v,e = .returned v∧IvR w' v (ydS l)∧Keep [] w w':=by
 have H:=jX (yhO l w sv hr h9);have H2:=jX (fun w v (h:IvR w v (ivsOf l))=>yhm (ivsOf l) w v h (by have:=yhi l;omega));obtain⟨ao,ac,rfl,_⟩:=hr;go_enter func45,ntmps45
 go_wp2_with fail;refine H.out.mono ?_;rintro e w1 ⟨v,rfl,hv,hk⟩;dsimp only;have HV:=jX hv;have HK:=jX hk;obtain⟨vo,vc,rfl,_⟩:=hv.form;clear hv hk H;go_wp2_with fail;refine (H2.out _ _ HV.out).mono ?_;rintro e w2 ⟨v,rfl,hv,hk⟩;dsimp only;have HV2:=jX hv;have HK2:=jX (HK.out.tz hk);obtain⟨vo,vc,rfl,_⟩:=hv.form;clear hv hk H2 HV HK;go_wp2_with fail;go_ret
 exact ⟨_,rfl,HV2.out,HK2.out⟩
def kQ (q:Rat) (h:FitQ 100000 q):K:=⟨⟨q,0,false⟩,⟨by show (0:Rat)≤0;grind,fun _=>rfl,fun h=>absurd rfl h⟩,h,fit0.mono (by decide)⟩
theorem cmp_frac (a b:Rat):cmpQ ⟨a,0,false⟩ ⟨b,0,false⟩=sgn (a-b):=by
 have h1:sg1 (a-b) (Qn.u ⟨a,0,false⟩) 0=sgn (a-b):=by
  unfold sg1;rw [sgn_zero,Int.mul_zero,if_pos (.inl rfl)]
 unfold cmpQ;dsimp only;rw [sgn_zero,Int.mul_zero,if_pos (.inl rfl),h1]
theorem kQ_lt {a b:Rat} {ha:FitQ 100000 a} {hb:FitQ 100000 b}:kQ a ha<kQ b hb↔a<b:=by
 rw [← K.cmp_neg];show cmpQ ⟨a,0,false⟩ ⟨b,0,false⟩ = -1↔_
 rw [cmp_frac];rcases yaP (a-b) with ⟨h,h2⟩|⟨h,h2⟩|⟨h,h2⟩<;>rw [h2]<;>constructor<;>intro h3<;>first|grind|(exact absurd h3 (by decide))
theorem fit_nat1 (n:Nat) (h:n<256):FitQ 1 (n:Rat):=by
 refine ⟨?_,?_⟩
 ·rw [Fit_iff]
  have e:(n:Rat).num=(n:Int):=rfl;rw [e]
  simpa using h
 rw [Fit_iff];have e:(n:Rat).den=1:=rfl;rw [e];decide
theorem yfp (n:Nat) (h:n<256):FitQ 100000 (n:Rat):=(fit_nat1 n h).mono (by decide)
def kN (n:Nat) (h:n<256):K:=kQ n (yfp n h)
theorem yee {m n:Nat} {hm:m<256} {hn:n<256}:kN m hm<kN n hn↔m<n:=by
 unfold kN;rw [kQ_lt]
 exact_mod_cast Iff.rfl
theorem yjp (n:Nat):Rat.divInt (n:Int) 1=(n:Rat):=by
 exact Rat.num_divInt_den (n:Rat)
theorem yjq (n:Bool) (s d:ByteArray):prog.built 36 [(0,.agg #[.bool n,.string s,.bool false,.string d])]=some #[.bool n,.string s,.bool false,.string d,.bool false,.string ⟨#[]⟩,.bool false,.string ⟨#[]⟩,.bool false]:=by kernel_rfl
theorem kQ_C (q:Rat) (h:FitQ 100000 q):kC (kQ q h) = #[.bool (sgB q.num),.string (mgS q.num),.bool false,.string (dnS q.den),.bool false,.string ⟨#[]⟩,.bool false,.string ⟨#[]⟩,.bool false]:=by
 have h1:sgB (0:Rat).num=false:=by decide
 have h2:mgS (0:Rat).num=⟨#[]⟩:=yaU.2 rfl;have h3:dnS (0:Rat).den=⟨#[]⟩:=by unfold dnS;rfl
 unfold kC kQ kcells;dsimp only;rw [h1,h2,h3]
theorem yfi (q:Rat) (h:FitQ 100000 q):prog.built 36 [(0,rv q)]=some (kC (kQ q h)):=by
 rw [kQ_C];exact yjq _ _ _
section
theorem ygv (x y:Qn):((((sgB x.p.num == sgB y.p.num)&&decide (mgS x.p.num=mgS y.p.num))&&((false == false)&&decide (dnS x.p.den=dnS y.p.den)))&&((((sgB x.r.num == sgB y.r.num)&&decide (mgS x.r.num=mgS y.r.num))&&((false == false)&&decide (dnS x.r.den=dnS y.r.den)))&&(x.neg == y.neg)))=(decide (x.p=y.p)&&(decide (x.r=y.r)&&(x.neg == y.neg))):=by
 rw [yeE,yeE]
theorem Qn.eq_dec (x y:Qn):(decide (x.p=y.p)&&(decide (x.r=y.r)&&(x.neg == y.neg)))=true↔x=y:=by
 obtain⟨p,r,n⟩:=x;obtain⟨p',r',n'⟩:=y;simp
theorem K.ext_iff {x y:K}:x=y↔x.1=y.1:=Subtype.ext_iff
open Classical in
theorem eqI_dec (i j:Iv K):((decide (i.f.pt.1.p=j.f.pt.1.p)&&(decide (i.f.pt.1.r=j.f.pt.1.r)&&(i.f.pt.1.neg == j.f.pt.1.neg)))&&((decide (i.l.pt.1.p=j.l.pt.1.p)&&(decide (i.l.pt.1.r=j.l.pt.1.r)&&(i.l.pt.1.neg == j.l.pt.1.neg)))&&((i.f.beh == j.f.beh)&&((!i.l.beh) == (!j.l.beh)))))=decide (i=j):=by
 rw [Bool.eq_iff_iff,decide_eq_true_iff,Bool.and_eq_true,Qn.eq_dec,Bool.and_eq_true,Qn.eq_dec,← K.ext_iff,← K.ext_iff];obtain⟨⟨a,b⟩,⟨c,d⟩⟩:=i;obtain⟨⟨a',b'⟩,⟨c',d'⟩⟩:=j;simp;constructor
 ·rintro ⟨rfl,rfl,rfl,h⟩
  exact ⟨⟨rfl,rfl⟩,rfl,h⟩
 rintro ⟨⟨rfl,rfl⟩,rfl,h⟩;exact ⟨rfl,rfl,rfl,h⟩
open Classical
theorem eqI_in (d:Nat) (x0 x1 x2 x3 x4 x5 x6 x7 x8 y0 y1 y2 y3 y4 y5 y6 y7 y8 u0 u1 u2 u3 u4 u5 u6 u7 u8 v0 v1 v2 v3 v4 v5 v6 v7 v8:Value) (o1 c1 o2 c2 k1 k2:Bool)
  (e1:∀ w,(Op.equalIn (d+4) 36 (.agg #[x0,x1,x2,x3,x4,x5,x6,x7,x8]) (.agg #[u0,u1,u2,u3,u4,u5,u6,u7,u8])).run prog w = .ok k1 w) (e2:∀ w,(Op.equalIn (d+4) 36 (.agg #[y0,y1,y2,y3,y4,y5,y6,y7,y8]) (.agg #[v0,v1,v2,v3,v4,v5,v6,v7,v8])).run prog w = .ok k2 w) (w:World) :
  (Op.equalIn (d+5) 49 (.agg #[x0,x1,x2,x3,x4,x5,x6,x7,x8,y0,y1,y2,y3,y4,y5,y6,y7,y8,.bool o1,.bool c1]) (.agg #[u0,u1,u2,u3,u4,u5,u6,u7,u8,v0,v1,v2,v3,v4,v5,v6,v7,v8,.bool o2,.bool c2])).run prog w = .ok (k1&&(k2&&((o1 == o2)&&(c1 == c2)))) w:=by
 have u3:=underlying36;have a3:=isAgg36;have z3:=sizeOf36;have u4:=underlying4;have aa4:=isAgg4;have z4:=sizeOf4;have hS:prog.underlying 49=some (.struct (prog.fieldsOf 49)):=by kernel_rfl
 have hp:prog.stoodInHeld 49=false:=by kernel_rfl
 rw [run_equalIn_agg w (d+4) 49 _ _ hS hp];simp only [Program.fieldsOf,underlying49];go_simp;cases k1<;>cases k2<;>cases o1<;>cases o2<;>cases c1<;>cases c2<;>simp
theorem eqI_g:prog.eqGuardType prog.depth 49=false:=by kernel_rfl
theorem neqR_run (x y:K) (w:World):(binOp .neq 36 (kv x) (kv y)).run prog w = .ok (.bool (!decide (x=y))) w:=by
 rw [yaM,yaM,run_neq_struct,show (10000:Nat)=9996+4 from rfl,yiP,ygv]
 have h:(decide (x.1.p=y.1.p)&&(decide (x.1.r=y.1.r)&&(x.1.neg == y.1.neg)))=decide (x=y):=by rw [Bool.eq_iff_iff,Qn.eq_dec,decide_eq_true_iff,K.ext_iff]
 rw [h];rfl
theorem eqR_run (x y:K) (w:World):(binOp .eql 36 (kv x) (kv y)).run prog w = .ok (.bool (decide (x=y))) w:=by
 rw [yaM,yaM,run_eql_struct,show (10000:Nat)=9996+4 from rfl,yiP,ygv]
 have h:(decide (x.1.p=y.1.p)&&(decide (x.1.r=y.1.r)&&(x.1.neg == y.1.neg)))=decide (x=y):=by rw [Bool.eq_iff_iff,Qn.eq_dec,decide_eq_true_iff,K.ext_iff]
 rw [h];rfl
theorem eqI_at (i j:Iv K) (w:World):(Op.equalIn 10000 49 (iv i) (iv j)).run prog w = .ok (decide (i=j)) w:=by
 rw [ybA,ybA,show (10000:Nat)=9995+5 from rfl,eqI_in 9995 _ _ _ _ _ _ _ _ _ _ _ _ _ _ _ _ _ _ _ _ _ _ _ _ _ _ _ _ _ _ _ _ _ _ _ _ _ _ _ _ _ _ (fun w=>yiP 9995 _ _ _ _ _ _ _ _ _ _ _ _ _ _ _ _ _ _ w) (fun w=>yiP 9995 _ _ _ _ _ _ _ _ _ _ _ _ _ _ _ _ _ _ w),ygv,ygv,eqI_dec]
theorem neqI_run (i j:Iv K) (w:World):(binOp .neq 49 (iv i) (iv j)).run prog w = .ok (.bool (!decide (i=j))) w:=by
 have h:=eqI_at i j w;unfold iv at *;rw [run_neq_struct,h];rfl
theorem eqlI_run (i j:Iv K) (w:World):(binOp .eql 49 (iv i) (iv j)).run prog w = .ok (.bool (decide (i=j))) w:=by
 have h:=eqI_at i j w;unfold iv at *;rw [run_eql_struct,h];rfl
end
section
open Classical
theorem yck {C:World→Prop} {o:Oper} {a:Act} {K:Act→Prop} (op:BinOp) (t:TypeId) (x y:Operand) (s:TypeId) (cx cy:Array Value) (v:Value) (ho:o.op = .binOp op t x y s) (hx:a.eval x = .agg cx) (hy:a.eval y = .agg cy) (hg:prog.eqGuardType prog.depth t=false)
  (h:∀ w,(binOp op t (.agg cx) (.agg cy)).run prog w = .ok v w) (hk:K (a.put o.dst v)):o.quiet prog a C K :=
 ⟨v,fun w hw=>by
  unfold Oper.quietAt execOp;simp only [ho,hx,hy,Sem.run_bind,run_eqGuard_agg (hm:=hg),Result.andThen_ok,h w,Sem.run_pure]
  exact ⟨rfl,rfl⟩,hk⟩
end
section
open Classical
structure RawR where
 a1:Bool
 a2:ByteArray
 a3:Bool
 a4:ByteArray
 b1:Bool
 b2:ByteArray
 b3:Bool
 b4:ByteArray
 n:Bool
def RawR.cells (x:RawR):List Value:=[.bool x.a1,.string x.a2,.bool x.a3,.string x.a4,.bool x.b1,.string x.b2,.bool x.b3,.string x.b4,.bool x.n]
def RawR.v (x:RawR):Value:=.agg #[.bool x.a1,.string x.a2,.bool x.a3,.string x.a4,.bool x.b1,.string x.b2,.bool x.b3,.string x.b4,.bool x.n]
def RawR.of (x:Qn):RawR:=⟨sgB x.p.num,mgS x.p.num,false,dnS x.p.den,sgB x.r.num,mgS x.r.num,false,dnS x.r.den,x.neg⟩
def RawR.isK (x:RawR):Prop:=∃ q:Qn,q.Ok∧x=RawR.of q
def RawR.sz (x:RawR) (k:Nat):Prop:=x.a2.size≤k∧x.a4.size≤k∧x.b2.size≤k∧x.b4.size≤k
theorem RawR.of_inj {x y:Qn} (h:RawR.of x=RawR.of y):x=y:=by
 unfold RawR.of at h;injection h with h1 h2 h3 h4 h5 h6 h7 h8 h9
 have hp:x.p=y.p:=by
  have:=(yeE x.p y.p).symm;rw [h1,h2,h4] at this
  simpa using this
 have hr:x.r=y.r:=by
  have:=(yeE x.r y.r).symm;rw [h5,h6,h8] at this
  simpa using this
 cases x;cases y;simp_all
end
section
open Classical
def MI (w0 w:World) (L:List (Value × List (Iv K))):Prop:=Keep [] w0 w∧∀ p∈L,IvR w p.1 p.2
theorem MI.start (w:World):MI w w []:=⟨Keep.refl _ _,by simp⟩
theorem MI.add {w0 w w':World} {L:List (Value × List (Iv K))} (h:MI w0 w L) {v:Value} {l:List (Iv K)} (hk:Keep [] w w') (hv:IvR w' v l):MI w0 w' ((v,l) :: L) :=
 ⟨h.1.tz hk,fun p hp=>by
  rcases List.mem_cons.1 hp with rfl|hp
  ·exact hv
  exact (h.2 p hp).later hk⟩
theorem MI.move {w0 w w':World} {L:List (Value × List (Iv K))} (h:MI w0 w L) (hk:Keep [] w w'):MI w0 w' L:=⟨h.1.tz hk,fun p hp=>(h.2 p hp).later hk⟩
theorem MI.get {w0 w:World} {L:List (Value × List (Iv K))} (h:MI w0 w L) (v:Value) (l:List (Iv K)) (hm:(v,l)∈L):IvR w v l:=h.2 (v,l) hm
theorem covers_c (a b:List (Iv K)) (ha:∀ i∈a,i.f<i.l) (hb:∀ i∈b,i.f<i.l) (w:World) (sv tv:Value) (hr:IvR w sv a) (hs:IvR w tv b) (h9:a.length≤10000) (h8:b.length≤10000) :
  Calls prog 93 #[sv,tv] w fun e w'=>e = .returned (.bool (decide (yaz 3 b a=[])))∧Keep [] w w':=by
 have H:=jX (Minus_p b a hb ha w tv sv hs hr h8 h9);obtain⟨ao,ac,rfl,_⟩:=hr.form;obtain⟨bo,bc,rfl,_⟩:=hs.form;clear hr hs ha hb;go_enter func93,ntmps93
 go_wp2_with fail;refine H.out.mono ?_;rintro e w1 ⟨v,rfl,hv,hk⟩;dsimp only;have HK:=jX hk;obtain⟨vo,vc,rfl,_⟩:=hv.form;obtain⟨r,hr⟩:∃ r,decide (yaz 3 b a=[])=r:=⟨_,rfl⟩
 have hd:(((yaz 3 b a).length:Int) == 0)=r:=by
  rw [← hr,Bool.eq_iff_iff,beq_iff_eq,decide_eq_true_iff,← List.length_eq_zero_iff];omega
 have HRr:=jX hr;clear hv hk H hr;generalize (yaz 3 b a).length=n at *;go_wp2_with fail;go_ret
 exact ⟨by rw [HRr.out];rfl,HK.out⟩
end
section
open Classical
theorem eqT_run (i:Iv K) (w:World):(binOp .eql 49 (iv i) (iv i)).run prog w = .ok (.bool true) w:=by rw [eqlI_run];simp
theorem ygK (i:Iv K) (x:Bd K):hasL [i] x=i.has x:=by rw [yay,yeq,Bool.or_false]
end
section
open Go.ChangeShapes Go.WideShapes Go.ChangeAt
theorem yiE {α β:Type} (f:α→Option β):∀ (l:List α) (cs:List β),l.mapM f=some cs→cs.length=l.length∧∀ (i:Nat) (x:α),l[i]? = some x→f x=cs[i]?
 | [],cs,h=>by
  simp at h;subst h;exact ⟨rfl,fun i x hx=>by simp at hx⟩
 | x :: l,cs,h=>by
  rw [List.mapM_cons] at h;simp only [Option.bind_eq_bind,Option.pure_def,Option.bind_eq_some_iff] at h;obtain⟨y,hy,ys,hys,h⟩:=h;simp at h;subst h;obtain⟨h1,h2⟩:=yiE f l ys hys;refine ⟨by simp [h1],fun i z hz=>?_⟩;cases i with
  | zero=>simp at hz;subst hz;simpa using hy
  | succ i=>simp at hz ⊢;exact h2 i z hz
theorem cells?_get {w:World} {base n:Nat} {a:Addr} {cs:List Value} (h:w.cells? base a n=some cs):cs.length=n∧∀ i,i<n→w.cell? (a.add i)=cs[i]?:=by
 unfold World.cells? at h;split at h
 ·obtain⟨h1,h2⟩:=yiE _ _ _ h
  exact ⟨by simpa using h1,fun i hi=>h2 i i (by rw [List.getElem?_range hi])⟩
 cases h
theorem ygq {w:World} {a:Addr} {v:Value} (h:w.cell? a=some v):∃ b off,a=⟨b,off,none⟩:=by
 obtain⟨b,off,sp⟩:=a;cases sp with
 | none=>exact ⟨b,off,rfl⟩
 | some x=>simp [World.cell?] at h;split at h<;>simp at h
theorem cells_u8:prog.cellsOf 5=1:=by kernel_rfl
theorem cells_bool:prog.cellsOf 4=1:=by kernel_rfl
theorem cells_Ins:prog.cellsOf 26=5:=by kernel_rfl
theorem cells_Span:prog.cellsOf 129=12:=by kernel_rfl
def InsA.cs (a:InsA):List Value:=[.int .u8 a.P,.int .u8 a.D,.int .u8 a.R,.int .u8 a.E,.bool a.neg]
section
variable {H:Type} {enc:TypeId × Value→H} {w:World} {base:Nat} {held:Bool} {fuel:Nat}
theorem ygJ {cs:List Value} {x:DataW H × List MemPlace} (h:DataW.trod enc prog w base (fun _=>true) held fuel 26 cs=some x):∃ a:InsA,cs=a.cs:=by
 obtain⟨xs,n,_,rfl,hl,hlen,hf⟩:=DataW.trod_struct underlying26 h;rw [cells_Ins] at hl
 match cs,hl with
 | [c0,c1,c2,c3,c4],_ =>
  match xs,hlen with
  | [x0,x1,x2,x3,x4],_ =>
   have h0:DataW.trod enc prog w base (fun _=>true) held n 5 (([c0,c1,c2,c3,c4].drop 0).take (prog.cellsOf 5))=some x0:=hf 0 _ rfl;have h1:DataW.trod enc prog w base (fun _=>true) held n 5 (([c0,c1,c2,c3,c4].drop 1).take (prog.cellsOf 5))=some x1:=hf 1 _ rfl;have h2:DataW.trod enc prog w base (fun _=>true) held n 5 (([c0,c1,c2,c3,c4].drop 2).take (prog.cellsOf 5))=some x2:=hf 2 _ rfl;have h3:DataW.trod enc prog w base (fun _=>true) held n 5 (([c0,c1,c2,c3,c4].drop 3).take (prog.cellsOf 5))=some x3:=hf 3 _ rfl;have h4:DataW.trod enc prog w base (fun _=>true) held n 4 (([c0,c1,c2,c3,c4].drop 4).take (prog.cellsOf 4))=some x4:=hf 4 _ rfl;rw [cells_u8] at h0 h1 h2 h3;rw [cells_bool] at h4;obtain⟨n0,e0,_,w0⟩:=DataW.trod_int underlying5 h0;obtain⟨n1,e1,_,w1⟩:=DataW.trod_int underlying5 h1;obtain⟨n2,e2,_,w2⟩:=DataW.trod_int underlying5 h2;obtain⟨n3,e3,_,w3⟩:=DataW.trod_int underlying5 h3;obtain⟨n4,e4,_⟩:=DataW.trod_bool underlying4 h4;simp at e0 e1 e2 e3 e4;subst e0 e1 e2 e3 e4;have b0:=bounds_u8 w0;have b1:=bounds_u8 w1;have b2:=bounds_u8 w2;have b3:=bounds_u8 w3;refine ⟨⟨n0.toNat,n1.toNat,n2.toNat,n3.toNat,n4,by omega,by omega,by omega,by omega⟩,?_⟩;simp [InsA.cs,Int.toNat_of_nonneg b0.1,Int.toNat_of_nonneg b1.1,Int.toNat_of_nonneg b2.1,Int.toNat_of_nonneg b3.1]
theorem span_trod {cs:List Value} {x:DataW H × List MemPlace} (h:DataW.trod enc prog w base (fun _=>true) held fuel 129 cs=some x):∃ s:SpanA,cs=ybi s:=by
 obtain⟨xs,n,_,rfl,hl,hlen,hf⟩:=DataW.trod_struct underlying129 h;rw [cells_Span] at hl
 match cs,hl with
 | [c0,c1,c2,c3,c4,c5,c6,c7,c8,c9,c10,c11],_ =>
  match xs,hlen with
  | [x0,x1,x2,x3],_ =>
   have h0:DataW.trod enc prog w base (fun _=>true) held n 26 (([c0,c1,c2,c3,c4,c5,c6,c7,c8,c9,c10,c11].drop 0).take (prog.cellsOf 26))=some x0:=hf 0 _ rfl;have h1:DataW.trod enc prog w base (fun _=>true) held n 26 (([c0,c1,c2,c3,c4,c5,c6,c7,c8,c9,c10,c11].drop 5).take (prog.cellsOf 26))=some x1:=hf 1 _ rfl;have h2:DataW.trod enc prog w base (fun _=>true) held n 4 (([c0,c1,c2,c3,c4,c5,c6,c7,c8,c9,c10,c11].drop 10).take (prog.cellsOf 4))=some x2:=hf 2 _ rfl;have h3:DataW.trod enc prog w base (fun _=>true) held n 4 (([c0,c1,c2,c3,c4,c5,c6,c7,c8,c9,c10,c11].drop 11).take (prog.cellsOf 4))=some x3:=hf 3 _ rfl;rw [cells_Ins] at h0 h1;rw [cells_bool] at h2 h3;obtain⟨a,e0⟩:=ygJ h0;obtain⟨b,e1⟩:=ygJ h1;obtain⟨o,e2,_⟩:=DataW.trod_bool underlying4 h2;obtain⟨c,e3,_⟩:=DataW.trod_bool underlying4 h3;refine ⟨⟨a,b,o,c⟩,?_⟩;simp [InsA.cs] at e0 e1 e2 e3;simp [ybi,e0,e1,e2,e3]
theorem yfK {sv:Value} {x:DataW H × List MemPlace} (h:DataW.trod enc prog w base (fun _=>true) held fuel 22 [sv]=some x) :
  ∃ l:List SpanA,SpQ w sv l∧l.length≤maxLen:=by
 rcases Go.Deep.open_slice underlying22 h with ⟨hcs,_⟩|⟨a,len,cap,m,n,D,Pl,hcs,_,hl,hm,hmm,_,hel⟩
 ·simp at hcs;exact ⟨[],⟨none,0,hcs,.inl rfl⟩,by simp⟩
 simp at hcs hmm;by_cases h0:len=0
 ·subst h0;exact ⟨[],⟨_,cap,hcs,.inl rfl⟩,by simp⟩
 have hall:∀ i,i<cap→∃ s:SpanA,w.cells? base (a.add (i*12)) 12=some (ybi s):=by
  intro i hi;obtain⟨cs',h1,h2⟩:=hel i (by omega);rw [cells_Span] at h1;obtain⟨s,rfl⟩:=span_trod h2;exact ⟨s,h1⟩
 have hfun:∃ f:Nat→SpanA,∀ i,i<cap→w.cells? base (a.add (i*12)) 12=some (ybi (f i)):=by
  obtain⟨s0,_⟩:=hall 0 (by omega);exact ⟨fun i=>if h:i<cap then Classical.choose (hall i h) else s0,fun i hi=>by simp only [hi,dif_pos];exact Classical.choose_spec (hall i hi)⟩
 obtain⟨f,hf⟩:=hfun;have hc0:=(cells?_get (hf 0 (by omega))).2 0 (by omega);obtain⟨b,off,hp⟩:=ygq (v:=.int .u8 (f 0).a.P) (by simpa [ybi] using hc0);have ha:a=⟨b,off,none⟩:=by unfold Addr.add at hp;simpa using hp
 subst ha;refine ⟨(List.range len).map f,⟨some ⟨b,off,none⟩,cap,by simpa using hcs,.inr ?_⟩,by simp;omega⟩;refine .inr ⟨b,off,cap,by simpa using hcs,by simp;omega,?_,fun t v hv=>?_⟩
 ·exact World.block_lt_of_cell? w _ (by
   have e:=hc0;rw [ycI,ycI] at e;simp only [Nat.zero_mul,Nat.add_zero] at e
   exact e.trans (by simp [ybi];rfl))
 have ht:t<len*12:=by
  have:=(List.getElem?_eq_some_iff.1 hv).1;rw [yby (fun s:SpanA=>ybi s) yda] at this
  simpa using this
 have hi:t / 12<len:=Nat.div_lt_of_lt_mul (by rw [Nat.mul_comm];exact ht);have hj:t % 12<12:=Nat.mod_lt _ (by decide);have h1:=yep (fun s:SpanA=>ybi s) yda ((List.range len).map f) (t / 12) (t % 12) (by simpa using hi) hj;rw [Nat.div_add_mod' t 12,hv] at h1;have h2:=(cells?_get (hf (t / 12) (by omega))).2 (t % 12) hj;rw [ycI,ycI,Nat.add_assoc,Nat.div_add_mod' t 12] at h2;rw [h2,h1];simp
end
def SpArg (w:World) (v:Value):Prop:=∃ l:List SpanA,SpQ w v l∧l.length≤9223372036854775807
end
end Go.Proofs.YtejegogbhpmgfaaGreatDoor
