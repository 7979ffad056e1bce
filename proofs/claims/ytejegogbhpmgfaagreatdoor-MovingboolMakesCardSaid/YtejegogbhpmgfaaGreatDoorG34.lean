/- Parts of a proof: Tk Ue Uf Ug Kx. -/
import Derived.Test.YtejegogbhpmgfaaGreatDoorG33
import Derived.Test.YtejegogbhpmgfaaGreatDoorG28
import Derived.Test.YtejegogbhpmgfaaGreatDoorG32
import Derived.Test.YtejegogbhpmgfaaGreatDoorG24
import Derived.Test.YtejegogbhpmgfaaGreatDoorG29
import Derived.Test.YtejegogbhpmgfaaGreatDoorG16
import Derived.Test.YtejegogbhpmgfaaGreatDoorG26
import Derived.Test.YtejegogbhpmgfaaGreatDoorG27
import Derived.Test.YtejegogbhpmgfaaGreatDoorG11
set_option linter.unusedVariables false
set_option linter.unusedSimpArgs false
set_option maxRecDepth 100000
set_option maxHeartbeats 8000000
namespace Go.Proofs.YtejegogbhpmgfaaGreatDoor
open Go.RowKit Tryz
def ybg (s:SpanA):List Value:=[.int .u8 s.a.P,.int .u8 s.a.D,.int .u8 s.a.R,.int .u8 s.a.E,.bool s.a.neg,.int .u8 s.b.P,.int .u8 s.b.D,.int .u8 s.b.R,.int .u8 s.b.E,.bool s.b.neg,.bool s.oa,.bool s.ob]
theorem ydq (s:SpanA):(ybg s).length=12:=rfl
abbrev SpR:=RowE (fun s:SpanA=>ybg s)
theorem infoSpan:∃ ie,prog.info? 129=some ie∧ie.size=12:=by
 have h:(prog.info? 129).map (·.size)=some 12:=by kernel_rfl
 cases hi:prog.info? 129 with
 | none=>rw [hi] at h;cases h
 | some ie=>rw [hi] at h;exact ⟨ie,rfl,by simpa using h⟩
theorem load_span (w:World) (b o:Nat) (s:SpanA) (hc:∀ k v,(ybg s)[k]? = some v→w.cell? ⟨b,o+k,none⟩=some v):(loadVar 129 ⟨b,o,none⟩).run prog w = .ok s.v w:=by
 obtain⟨ie,hie,hs⟩:=infoSpan;exact Go.Lib.rl_loadVar_cells 129 ie hie isAgg129 b o (ybg s) (by rw [hs];rfl) w hc
theorem SpR.elem {w:World} {a:Option Addr} {n c:Nat} {l:List SpanA} (h:SpR w (.slice a n c) l) (i:Nat) (hi:i<l.length):∃ g o,a=some ⟨g,o,none⟩∧g<w.heap.size∧∀ j v,(ybg l[i])[j]? = some v→w.cell? ⟨g,o+i*12+j,none⟩=some v:=RowE.elem ydq h i hi
theorem span_keep {w w':World} {g p:Nat} {s:SpanA} (h:∀ j v,(ybg s)[j]? = some v→w.cell? ⟨g,p+j,none⟩=some v) (hb:w'.heap[g]? = w.heap[g]?):∀ j v,(ybg s)[j]? = some v→w'.cell? ⟨g,p+j,none⟩=some v:=fun j v hj=>by
 rw [World.cell?_of_block hb];exact h j v hj
def SpQ (w:World) (v:Value) (l:List SpanA):Prop:=∃ (a:Option Addr) (c:Nat),v = .slice a l.length c∧(l=[]∨SpR w v l)
theorem SpQ.elem {w:World} {a:Option Addr} {n c:Nat} {l:List SpanA} (h:SpQ w (.slice a n c) l) (i:Nat) (hi:i<l.length):∃ g o,a=some ⟨g,o,none⟩∧g<w.heap.size∧∀ j v,(ybg l[i])[j]? = some v→w.cell? ⟨g,o+i*12+j,none⟩=some v:=by
 obtain⟨_,_,_,h|h⟩:=h
 ·subst h;simp at hi
 exact SpR.elem h i hi
theorem SpQ.later {w w':World} {v:Value} {l:List SpanA} (h:SpQ w v l) (hk:Keep [] w w'):SpQ w' v l:=by
 obtain⟨a,c,h1,h2⟩:=h;exact ⟨a,c,h1,h2.imp id (fun h=>h.later hk)⟩
noncomputable def ivsOf (l:List SpanA):List (Iv K):=(l.take 8).map SpanA.i
theorem yhP (l:List SpanA) (w:World) (sv:Value) (hr:SpQ w sv l) (h9:l.length≤9223372036854775807) :
  Calls prog 89 #[sv] w fun e w'=>∃ v,e = .returned v∧IvR w' v (ivsOf l)∧Keep [] w w':=by
 have HR:=jX hr;have HC:=jX (fun s w=>yjB s w);obtain⟨ao,ac,rfl,_⟩:=hr;go_enter func89,ntmps89
 go_wp2_with fail;go_loopw [3,4] (fun ov c wr=>∃ k:Nat,k≤l.length∧k≤8∧c = .int .i64 (k:Int)∧OI_ w wr ov ((l.take k).map SpanA.i)) (fun _ c _=>l.length-(intOf c).toNat)
 case atStart=>exact ⟨0,Nat.zero_le _,Nat.zero_le _,rfl,OE.nil w⟩
 case round =>
  obtain⟨k,hk,hk8,rfl,hov⟩:=hrel;obtain⟨out,hout⟩:∃ out,(l.take k).map SpanA.i=out:=⟨_,rfl⟩;rw [hout] at hov;have Hlen:=jX (show out.length=k by rw [← hout,List.length_map,List.length_take,Nat.min_eq_left hk])
  have Hout:=jX hout;have HO:=jX hov;obtain⟨oo,oc,rfl⟩:=hov.form;clear hov hout;by_cases hlt:k<l.length
  ·by_cases hlt8:k<8
   ·obtain⟨g,o,rfl,hg,hat⟩:=SpQ.elem HR.out k hlt
    have Hstep:Hid ((l.take (k+1)).map SpanA.i=(l.take k).map SpanA.i++[l[k].i]):=by rw [List.take_succ_eq_append_getElem hlt,List.map_append];rfl
    generalize l[k]=s at *;obtain⟨p,hp⟩:∃ p,o+k*12=p:=⟨_,rfl⟩;rw [hp] at hat;have HL:=jX (load_span wr g p s (span_keep hat (HO.out.keep.block g hg (by simp))));have H1:=jX (HC.out s);clear hat;go_upto_region 5 with (fail)
    refine wp_region_lit ?_;refine' yad (v:=_) (by rfl) (?ha) (fun K hK=>?ka)
    case ha=>(go_simp;try rfl)
    go_simp;refine hK _ _ ?_;clear hK K;refine' yad (v:=_) (by rfl) (?hb) (fun K hK=>?kb)
    case hb=>(go_simp;try rfl)
    go_simp;refine hK _ _ ?_;clear hK K;refine' yad (v:=_) (by rfl) (?hc) (fun K hK=>?kc)
    case hc=>(go_simp;try rfl)
    go_simp;refine hK _ _ ?_;clear hK K;refine' yad (v:=_) (by rfl) (?hd) (fun K hK=>?kd)
    case hd=>(go_simp;try rfl)
    go_simp;refine hK _ _ ?_;clear hK K;refine yad (v:=s.v) (by rfl) (yak _ _ ⟨g,p,none⟩ _ rfl rfl HL.out) (fun K hK=>?_);go_simp;refine hK _ _ ?_;clear hK K;refine wpList_plain (by rfl) (fun K hK=>?_);refine yae 131 #[s.v] (by go_simp) ?_;refine (H1.out _).mono ?_;rintro e w5 ⟨rfl,hk5⟩;refine ⟨_,rfl,?_⟩;go_simp;refine hK _ _ ?_;clear hK K;obtain⟨ub,gx,e3,e4,hz1,hkx,hx⟩:=IvR.single s.i w5;have hW:=hk5.tz hkx;refine yaq (v:=.slice (some ⟨w5.heap.size,0,none⟩) 1 1) (by rfl) (yaE 27 1 #[(0,.tmp 20)] #[(0,iv s.i)] _ rfl (by simp only [List.map_toArray,List.map_cons,List.map_nil];rfl) (ybr s.i _)) (fun K hK=>?_);rw [e3,e4];clear e3;go_simp;refine hK _ _ ?_;clear hK K;obtain⟨v4,u4,hr4,ho4,hn4,_⟩:=IvR.app (ty:=27) (HO.out.later hW) (.inr (by simp)) hx (by rw [Hlen.out];simp;omega);refine yaq (by rfl) (yas (.tmp 15) (.tmp 21) 27 _ _ _ rfl rfl rfl hr4) (fun K hK=>?_);go_simp;refine hK _ _ ?_;clear hK K hr4 hx hkx hW hk5;have HN:=jX ho4;obtain⟨no,nc,rfl⟩:=ho4.form;clear ho4 hn4;go_wp2_with fail;go_roundw
    case rel=>exact ⟨k+1,by omega,by omega,congrArg (Value.int .i64) (by omega),by rw [Hstep.out,Hout.out];exact HN.out⟩
    case measure=>simp [intOf];omega
   obtain rfl:k=8:=by omega
   have HF:Hid (out=ivsOf l):=Hout.out.symm;go_wp2_with fail;go_ret
   exact ⟨_,rfl,by rw [← HF.out];exact HO.out.read,HO.out.keep⟩
  have hkl:l.take k=l.take 8:=by rw [List.take_of_length_le (by omega),List.take_of_length_le (by omega)]
  have HF:Hid (out=ivsOf l):=by
   unfold ivsOf;rw [← hkl];exact Hout.out.symm
  clear hkl;go_wp2_with fail;go_ret
  exact ⟨_,rfl,by rw [← HF.out];exact HO.out.read,HO.out.keep⟩
theorem ydW {op:Int} {a b out:List (Iv K)} (h1:Norm out) (h2:∀ x,hasL out x=decV op (hasL a x) (hasL b x)):out=yax op a b:=(ygj h1 h2).symm
theorem Union_c (a b:Bool) (w:World):Calls prog 110 #[.bool a,.bool b] w fun e w'=>e = .returned (.bool (decV 1 a b))∧Keep [] w w':=by
 cases a<;>cases b
 all_goals
  go_enter func110,ntmps110
  go_wp2_with fail;go_ret
  exact ⟨rfl,Keep.refl _ _⟩
theorem Union_p (a b:List (Iv K)) (ha:∀ i∈a,i.f<i.l) (hb:∀ i∈b,i.f<i.l) (w:World) (sv tv:Value) (hr:IvR w sv a) (hs:IvR w tv b) (h9:a.length≤10000) (h8:b.length≤10000) :
  Calls prog 70 #[sv,tv] w fun e w'=>∃ v,e = .returned v∧IvR w' v (yax 1 a b)∧Keep [] w w':=by
 have H:=jX (yhX (decV 1) 110 (enters_of func110 (by kernel_rfl) rfl) (fun x y w=>Union_c x y w) (ycR 1) a b ha hb w sv tv hr hs h9 h8);obtain⟨ao,ac,rfl,_⟩:=hr.form;obtain⟨bo,bc,rfl,_⟩:=hs.form;clear hr hs ha hb;go_enter func70,ntmps70
 go_wp2_with fail;refine H.out.mono ?_;rintro e w1 ⟨v,out,rfl,hv,h1,h2,hk⟩;dsimp only;have HV:=jX (show IvR w1 v (yax 1 a b) by rw [← ydW h1 h2];exact hv)
 have HK:=jX hk;obtain⟨vo,vc,rfl,_⟩:=hv.form;clear hv h1 h2 hk;go_wp2_with fail;go_ret
 exact ⟨_,rfl,HV.out,HK.out⟩
theorem Intersect_c (a b:Bool) (w:World):Calls prog 111 #[.bool a,.bool b] w fun e w'=>e = .returned (.bool (decV 2 a b))∧Keep [] w w':=by
 cases a<;>cases b
 all_goals
  go_enter func111,ntmps111
  go_wp2_with fail;go_ret
  exact ⟨rfl,Keep.refl _ _⟩
theorem Intersect_p (a b:List (Iv K)) (ha:∀ i∈a,i.f<i.l) (hb:∀ i∈b,i.f<i.l) (w:World) (sv tv:Value) (hr:IvR w sv a) (hs:IvR w tv b) (h9:a.length≤10000) (h8:b.length≤10000) :
  Calls prog 71 #[sv,tv] w fun e w'=>∃ v,e = .returned v∧IvR w' v (yax 2 a b)∧Keep [] w w':=by
 have H:=jX (yhX (decV 2) 111 (enters_of func111 (by kernel_rfl) rfl) (fun x y w=>Intersect_c x y w) (ycR 2) a b ha hb w sv tv hr hs h9 h8);obtain⟨ao,ac,rfl,_⟩:=hr.form;obtain⟨bo,bc,rfl,_⟩:=hs.form;clear hr hs ha hb;go_enter func71,ntmps71
 go_wp2_with fail;refine H.out.mono ?_;rintro e w1 ⟨v,out,rfl,hv,h1,h2,hk⟩;dsimp only;have HV:=jX (show IvR w1 v (yax 2 a b) by rw [← ydW h1 h2];exact hv)
 have HK:=jX hk;obtain⟨vo,vc,rfl,_⟩:=hv.form;clear hv h1 h2 hk;go_wp2_with fail;go_ret
 exact ⟨_,rfl,HV.out,HK.out⟩
theorem Minus_c (a b:Bool) (w:World):Calls prog 109 #[.bool a,.bool b] w fun e w'=>e = .returned (.bool (decV 3 a b))∧Keep [] w w':=by
 cases a<;>cases b
 all_goals
  go_enter func109,ntmps109
  go_wp2_with fail;go_ret
  exact ⟨rfl,Keep.refl _ _⟩
theorem Minus_p (a b:List (Iv K)) (ha:∀ i∈a,i.f<i.l) (hb:∀ i∈b,i.f<i.l) (w:World) (sv tv:Value) (hr:IvR w sv a) (hs:IvR w tv b) (h9:a.length≤10000) (h8:b.length≤10000) :
  Calls prog 66 #[sv,tv] w fun e w'=>∃ v,e = .returned v∧IvR w' v (yax 3 a b)∧Keep [] w w':=by
 have H:=jX (yhX (decV 3) 109 (enters_of func109 (by kernel_rfl) rfl) (fun x y w=>Minus_c x y w) (ycR 3) a b ha hb w sv tv hr hs h9 h8);obtain⟨ao,ac,rfl,_⟩:=hr.form;obtain⟨bo,bc,rfl,_⟩:=hs.form;clear hr hs ha hb;go_enter func66,ntmps66
 go_wp2_with fail;refine H.out.mono ?_;rintro e w1 ⟨v,out,rfl,hv,h1,h2,hk⟩;dsimp only;have HV:=jX (show IvR w1 v (yax 3 a b) by rw [← ydW h1 h2];exact hv)
 have HK:=jX hk;obtain⟨vo,vc,rfl,_⟩:=hv.form;clear hv h1 h2 hk;go_wp2_with fail;go_ret
 exact ⟨_,rfl,HV.out,HK.out⟩
theorem ygC (a:List (Iv K)) (ha:∀ i∈a,i.f<i.l) (w:World) (sv:Value) (hr:IvR w sv a) (h9:a.length≤10000) :
  Calls prog 97 #[sv] w fun e w'=>∃ v,e = .returned v∧IvR w' v (ybE a)∧Keep [] w w':=by
 have H:=jX (Union_p a [] ha (by simp) w sv (.slice none 0 0) hr (RowE.nil w) h9 (by simp));obtain⟨ao,ac,rfl,_⟩:=hr.form;clear hr ha;go_enter func97,ntmps97
 go_wp2_with fail;refine H.out.mono ?_;rintro e w1 ⟨v,rfl,hv,hk⟩;dsimp only;have HV:=jX hv;have HK:=jX hk;obtain⟨vo,vc,rfl,_⟩:=hv.form;clear hv hk;go_wp2_with fail;go_ret
 exact ⟨_,rfl,HV.out,HK.out⟩
theorem yfH (op:Int) (hop:op=1∨op=2∨op=3) (a b:List (Iv K)) (w:World) (sv tv:Value) (hr:IvR w sv a) (hs:IvR w tv b) (h9:a.length≤10000) (h8:b.length≤10000) :
  Calls prog 50 #[.int .i64 op,sv,tv] w fun e w'=>∃ v,e = .returned v∧IvR w' v (yax op a b)∧Keep [] w w':=combine_c op hop a b w sv tv hr hs h9 h8
theorem ygZ (a:List (Iv K)) (w:World) (sv:Value) (hr:IvR w sv a) (h9:a.length≤10000) :
  Calls prog 88 #[sv] w fun e w'=>∃ v,e = .returned v∧IvR w' v (ybE a)∧Keep [] w w':=by
 have H:=jX (yfH 1 (.inl rfl) a [] w sv (.slice none 0 0) hr (RowE.nil w) h9 (by simp));obtain⟨ao,ac,rfl,_⟩:=hr.form;clear hr;go_enter func88,ntmps88
 go_wp2_with fail;refine H.out.mono ?_;rintro e w1 ⟨v,rfl,hv,hk⟩;dsimp only;have HV:=jX hv;have HK:=jX hk;obtain⟨vo,vc,rfl,_⟩:=hv.form;clear hv hk;go_wp2_with fail;go_ret
 exact ⟨_,rfl,HV.out,HK.out⟩
noncomputable def yhE (l:List SpanA):List (Iv K):=ybE (ivsOf l)
theorem ygS (l:List SpanA):(ivsOf l).length≤8:=by unfold ivsOf;rw [List.length_map,List.length_take];omega
theorem yja (l:List SpanA):Norm (yhE l):=ybw _ _ _
theorem perOf_per (l:List SpanA):Per (ptsL (ivsOf l)) (yhE l):=ycT _ (PtsIn.self _) (PtsIn.nil _)
theorem ptsOf_len (l:List SpanA):(ptsL (ivsOf l)).length≤16:=by rw [ybA];have:=ygS l;omega
theorem lperiod_c (l:List SpanA) (w:World) (sv:Value) (hr:SpQ w sv l) (h9:l.length≤9223372036854775807) :
  Calls prog 45 #[sv] w fun e w'=>∃ v,e = .returned v∧IvR w' v (yhE l)∧Keep [] w w':=by
 have H:=jX (yhP l w sv hr h9);have H2:=jX (fun w v (h:IvR w v (ivsOf l))=>ygZ (ivsOf l) w v h (by have:=ygS l;omega));obtain⟨ao,ac,rfl,_⟩:=hr;go_enter func45,ntmps45
 go_wp2_with fail;refine H.out.mono ?_;rintro e w1 ⟨v,rfl,hv,hk⟩;dsimp only;have HV:=jX hv;have HK:=jX hk;obtain⟨vo,vc,rfl,_⟩:=hv.form;clear hv hk H;go_wp2_with fail;refine (H2.out _ _ HV.out).mono ?_;rintro e w2 ⟨v,rfl,hv,hk⟩;dsimp only;have HV2:=jX hv;have HK2:=jX (HK.out.tz hk);obtain⟨vo,vc,rfl,_⟩:=hv.form;clear hv hk H2 HV HK;go_wp2_with fail;go_ret
 exact ⟨_,rfl,HV2.out,HK2.out⟩
def kQ (q:Rat) (h:FitQ 100000 q):K:=⟨⟨q,0,false⟩,⟨by show (0:Rat)≤0;grind,fun _=>rfl,fun h=>absurd rfl h⟩,h,fit0.mono (by decide)⟩
theorem cmp_frac (a b:Rat):cmpQ ⟨a,0,false⟩ ⟨b,0,false⟩=sgn (a-b):=by
 have h1:sg1 (a-b) (Qn.u ⟨a,0,false⟩) 0=sgn (a-b):=by
  unfold sg1;rw [sgn_zero,Int.mul_zero,if_pos (.inl rfl)]
 unfold cmpQ;dsimp only;rw [sgn_zero,Int.mul_zero,if_pos (.inl rfl),h1]
theorem kQ_lt {a b:Rat} {ha:FitQ 100000 a} {hb:FitQ 100000 b}:kQ a ha<kQ b hb↔a<b:=by
 rw [← K.cmp_neg];show cmpQ ⟨a,0,false⟩ ⟨b,0,false⟩ = -1↔_
 rw [cmp_frac];rcases yaM (a-b) with ⟨h,h2⟩|⟨h,h2⟩|⟨h,h2⟩<;>rw [h2]<;>constructor<;>intro h3<;>first|grind|(exact absurd h3 (by decide))
theorem fit_nat1 (n:Nat) (h:n<256):FitQ 1 (n:Rat):=by
 refine ⟨?_,?_⟩
 ·rw [Fit_iff]
  have e:(n:Rat).num=(n:Int):=rfl;rw [e]
  simpa using h
 rw [Fit_iff];have e:(n:Rat).den=1:=rfl;rw [e];decide
theorem yeP (n:Nat) (h:n<256):FitQ 100000 (n:Rat):=(fit_nat1 n h).mono (by decide)
def kN (n:Nat) (h:n<256):K:=kQ n (yeP n h)
theorem yed {m n:Nat} {hm:m<256} {hn:n<256}:kN m hm<kN n hn↔m<n:=by
 unfold kN;rw [kQ_lt]
 exact_mod_cast Iff.rfl
theorem yjr (n:Nat):Rat.divInt (n:Int) 1=(n:Rat):=by
 exact Rat.num_divInt_den (n:Rat)
theorem yjs (n:Bool) (s d:ByteArray):prog.built 36 [(0,.agg #[.bool n,.string s,.bool false,.string d])]=some #[.bool n,.string s,.bool false,.string d,.bool false,.string ⟨#[]⟩,.bool false,.string ⟨#[]⟩,.bool false]:=by kernel_rfl
theorem kQ_C (q:Rat) (h:FitQ 100000 q):kC (kQ q h) = #[.bool (sgB q.num),.string (mgS q.num),.bool false,.string (dnS q.den),.bool false,.string ⟨#[]⟩,.bool false,.string ⟨#[]⟩,.bool false]:=by
 have h1:sgB (0:Rat).num=false:=by decide
 have h2:mgS (0:Rat).num=⟨#[]⟩:=yaX.2 rfl;have h3:dnS (0:Rat).den=⟨#[]⟩:=by unfold dnS;rfl
 unfold kC kQ kcells;dsimp only;rw [h1,h2,h3]
theorem yeH (q:Rat) (h:FitQ 100000 q):prog.built 36 [(0,rv q)]=some (kC (kQ q h)):=by
 rw [kQ_C];exact yjs _ _ _
section
open Classical
structure RawR where
 a1:Bool
 a2:ByteArray
 a3:Bool
 a4:ByteArray
 b1:Bool
 b2:ByteArray
 b3:Bool
 b4:ByteArray
 n:Bool
def RawR.cells (x:RawR):List Value:=[.bool x.a1,.string x.a2,.bool x.a3,.string x.a4,.bool x.b1,.string x.b2,.bool x.b3,.string x.b4,.bool x.n]
def RawR.v (x:RawR):Value:=.agg #[.bool x.a1,.string x.a2,.bool x.a3,.string x.a4,.bool x.b1,.string x.b2,.bool x.b3,.string x.b4,.bool x.n]
def RawR.of (x:Qn):RawR:=⟨sgB x.p.num,mgS x.p.num,false,dnS x.p.den,sgB x.r.num,mgS x.r.num,false,dnS x.r.den,x.neg⟩
def RawR.isK (x:RawR):Prop:=∃ q:Qn,q.Ok∧x=RawR.of q
def RawR.sz (x:RawR) (k:Nat):Prop:=x.a2.size≤k∧x.a4.size≤k∧x.b2.size≤k∧x.b4.size≤k
theorem RawR.of_inj {x y:Qn} (h:RawR.of x=RawR.of y):x=y:=by
 unfold RawR.of at h;injection h with h1 h2 h3 h4 h5 h6 h7 h8 h9
 have hp:x.p=y.p:=by
  have:=(yeB x.p y.p).symm;rw [h1,h2,h4] at this
  simpa using this
 have hr:x.r=y.r:=by
  have:=(yeB x.r y.r).symm;rw [h5,h6,h8] at this
  simpa using this
 cases x;cases y;simp_all
theorem yiz (x:RawR) (hs:x.sz 1000000) (w:World):Calls prog 134 #[x.v] w fun e w'=>e = .returned (.bool (decide x.isK))∧Keep [] w w':=by
 obtain⟨a1,a2,a3,a4,b1,b2,b3,b4,n⟩:=x;obtain⟨hs1,hs2,hs3,hs4⟩:=hs;dsimp only at hs1 hs2 hs3 hs4;unfold RawR.v;dsimp only;have H1:=jX (yiu a1 a2 a3 a4 (by omega) (by omega));have H2:=jX (yiu b1 b2 b3 b4 (by omega) (by omega))
 have HX:Hid ((RawR.mk a1 a2 a3 a4 b1 b2 b3 b4 n).isK→chkQ a1 a2 a3 a4=true∧chkQ b1 b2 b3 b4=true):=by
  rintro ⟨q,hq,he⟩;unfold RawR.of at he;injection he with h1 h2 h3 h4 h5 h6 h7 h8 h9;exact ⟨ybY.2 ⟨q.p,h1,h2,h3,h4⟩,ybY.2 ⟨q.r,h5,h6,h7,h8⟩⟩
 clear hs1 hs2;cases hca:chkQ a1 a2 a3 a4 with
 | false =>
  rw [hca] at H1;have hres:decide (RawR.mk a1 a2 a3 a4 b1 b2 b3 b4 n).isK=false:=decide_eq_false (fun h=>by have:=(HX.out h).1;rw [hca] at this;cases this);rw [hres];clear hres hca HX hs3 hs4 H2;go_enter func134,ntmps134
  go_wp2_with fail;obtain⟨W,ga,hW,ega,Bga,hga,hgW,HkW⟩:=al1h w (.cells #[.bool a1,.string a2,.bool a3,.string a4,.bool b1,.string b2,.bool b3,.string b4,.bool n] 36);rw [← hW];try rw [ega]
  clear hW ega;obtain⟨pga,fga,lga⟩:=jQ Bga;go_wp2_with fail;refine (H1.out _).mono ?_;rintro e w1 ⟨rfl,hk_w1⟩;dsimp only;clear pga fga lga;replace Bga:=jH hk_w1 Bga;replace HkW:=jX (HkW.out.tz hk_w1);clear hk_w1;obtain⟨pga,fga,lga⟩:=jQ Bga;go_wp2_with fail;go_ret
  exact ⟨rfl,by repeat (first|(with_reducible exact HkW.out)|(refine Keep.sP ?_ _ _ _ (by omega))|(refine Keep.aP ?_ _)|(refine Keep.dP ?_))⟩
 | true =>
  rw [hca] at H1;cases hcb:chkQ b1 b2 b3 b4 with
  | false =>
   rw [hcb] at H2;have hres:decide (RawR.mk a1 a2 a3 a4 b1 b2 b3 b4 n).isK=false:=decide_eq_false (fun h=>by have:=(HX.out h).2;rw [hcb] at this;cases this);rw [hres];clear hres hca hcb HX hs3 hs4;go_enter func134,ntmps134
   go_wp2_with fail;obtain⟨W,ga,hW,ega,Bga,hga,hgW,HkW⟩:=al1h w (.cells #[.bool a1,.string a2,.bool a3,.string a4,.bool b1,.string b2,.bool b3,.string b4,.bool n] 36);rw [← hW];try rw [ega]
   clear hW ega;obtain⟨pga,fga,lga⟩:=jQ Bga;go_wp2_with fail;refine (H1.out _).mono ?_;rintro e w1 ⟨rfl,hk_w1⟩;dsimp only;clear pga fga lga;replace Bga:=jH hk_w1 Bga;replace HkW:=jX (HkW.out.tz hk_w1);clear hk_w1;obtain⟨pga,fga,lga⟩:=jQ Bga;go_wp2_with fail;refine (H2.out _).mono ?_;rintro e w2 ⟨rfl,hk_w2⟩;dsimp only;clear pga fga lga;replace Bga:=jH hk_w2 Bga;replace HkW:=jX (HkW.out.tz hk_w2);clear hk_w2;obtain⟨pga,fga,lga⟩:=jQ Bga;go_wp2_with fail;go_ret
   exact ⟨rfl,by repeat (first|(with_reducible exact HkW.out)|(refine Keep.sP ?_ _ _ _ (by omega))|(refine Keep.aP ?_ _)|(refine Keep.dP ?_))⟩
  | true =>
   rw [hcb] at H2;obtain⟨p,e1,e2,e3,e4⟩:=ybY.1 hca;obtain⟨r,e5,e6,e7,e8⟩:=ybY.1 hcb
   have hfit:FitQ 10000000 r:=by
    refine ⟨?_,?_⟩
    ·have:=hs3;rw [e6] at this;exact Nat.le_trans this (by decide)
    have:=hs4;rw [e8] at this;unfold dnS at this;unfold Fit mgS;rw [Int.natAbs_natCast];split at this
    ·rename_i h1;rw [h1];exact Nat.le_trans ((yaO 1 1).2 (by decide)) (by decide)
    exact Nat.le_trans this (by decide)
   have HR:=jX (yhC r hfit);have HS:=jX (ydX r);rw [ydL] at HS;clear hs3 hs4 hca hcb hfit HX;subst e1 e2 e3 e4 e5 e6 e7 e8;have HK1:Hid (∀ q:Qn,q.Ok→q.p=p→q.r=r→q.neg=n→(RawR.mk (sgB p.num) (mgS p.num) false (dnS p.den) (sgB r.num) (mgS r.num) false (dnS r.den) n).isK):=fun q hq h1 h2 h3=>⟨q,hq,by unfold RawR.of;rw [h1,h2,h3]⟩
   have HK2:Hid ((RawR.mk (sgB p.num) (mgS p.num) false (dnS p.den) (sgB r.num) (mgS r.num) false (dnS r.den) n).isK→(⟨p,r,n⟩:Qn).Ok):=by
    rintro ⟨q,hq,he⟩;have:=RawR.of_inj (x:=⟨p,r,n⟩) (y:=q) he;rw [this];exact hq
   generalize (RawR.mk (sgB p.num) (mgS p.num) false (dnS p.den) (sgB r.num) (mgS r.num) false (dnS r.den) n).isK=KK at *;unfold rv at HR HS;have hsg:=yaM r;unfold Root2Post rv at HR;rcases hsg with ⟨hr0,hsg⟩|⟨hr0,hsg⟩|⟨hr0,hsg⟩
   ·have hres:decide KK=false:=decide_eq_false (fun h=>by have:=(HK2.out h).nn;dsimp only at this;grind)
    rw [hres];rw [hsg] at HS;clear hres HK1 HK2 hsg HR hr0;generalize sgB (p).num=a1 at *;generalize mgS (p).num=a2 at *;generalize dnS (p).den=a4 at *;generalize sgB (r).num=b1 at *;generalize mgS (r).num=b2 at *;generalize dnS (r).den=b4 at *;go_enter func134,ntmps134
    go_wp2_with fail;obtain⟨W,ga,hW,ega,Bga,hga,hgW,HkW⟩:=al1h w (.cells #[.bool a1,.string a2,.bool false,.string a4,.bool b1,.string b2,.bool false,.string b4,.bool n] 36);rw [← hW];try rw [ega]
    clear hW ega;obtain⟨pga,fga,lga⟩:=jQ Bga;go_wp2_with fail;refine (H1.out _).mono ?_;rintro e w1 ⟨rfl,hk_w1⟩;dsimp only;clear pga fga lga;replace Bga:=jH hk_w1 Bga;replace HkW:=jX (HkW.out.tz hk_w1);clear hk_w1;obtain⟨pga,fga,lga⟩:=jQ Bga;go_wp2_with fail;refine (H2.out _).mono ?_;rintro e w2 ⟨rfl,hk_w2⟩;dsimp only;clear pga fga lga;replace Bga:=jH hk_w2 Bga;replace HkW:=jX (HkW.out.tz hk_w2);clear hk_w2;obtain⟨pga,fga,lga⟩:=jQ Bga;go_wp2_with fail;refine (HS.out _).mono ?_;rintro e w3 ⟨rfl,hk_w3⟩;dsimp only;clear pga fga lga;replace Bga:=jH hk_w3 Bga;replace HkW:=jX (HkW.out.tz hk_w3);clear hk_w3;obtain⟨pga,fga,lga⟩:=jQ Bga;go_wp2_with fail;go_ret
    exact ⟨rfl,by repeat (first|(with_reducible exact HkW.out)|(refine Keep.sP ?_ _ _ _ (by omega))|(refine Keep.aP ?_ _)|(refine Keep.dP ?_))⟩
   ·have hres : decide KK = !n := by
     cases n with
     | true=>exact decide_eq_false (fun h=>by have:=(HK2.out h).zero hr0;cases this)
     | false=>exact decide_eq_true (HK1.out ⟨p,r,false⟩ ⟨by show (0:Rat)≤r;rw [hr0];grind,fun _=>rfl,fun h=>absurd hr0 h⟩ rfl rfl rfl)
    rw [hres];rw [hsg] at HS;clear hres HK1 HK2 hsg HR hr0;generalize sgB (p).num=a1 at *;generalize mgS (p).num=a2 at *;generalize dnS (p).den=a4 at *;generalize sgB (r).num=b1 at *;generalize mgS (r).num=b2 at *;generalize dnS (r).den=b4 at *;go_enter func134,ntmps134
    go_wp2_with fail;obtain⟨W,ga,hW,ega,Bga,hga,hgW,HkW⟩:=al1h w (.cells #[.bool a1,.string a2,.bool false,.string a4,.bool b1,.string b2,.bool false,.string b4,.bool n] 36);rw [← hW];try rw [ega]
    clear hW ega;obtain⟨pga,fga,lga⟩:=jQ Bga;go_wp2_with fail;refine (H1.out _).mono ?_;rintro e w1 ⟨rfl,hk_w1⟩;dsimp only;clear pga fga lga;replace Bga:=jH hk_w1 Bga;replace HkW:=jX (HkW.out.tz hk_w1);clear hk_w1;obtain⟨pga,fga,lga⟩:=jQ Bga;go_wp2_with fail;refine (H2.out _).mono ?_;rintro e w2 ⟨rfl,hk_w2⟩;dsimp only;clear pga fga lga;replace Bga:=jH hk_w2 Bga;replace HkW:=jX (HkW.out.tz hk_w2);clear hk_w2;obtain⟨pga,fga,lga⟩:=jQ Bga;go_wp2_with fail;refine (HS.out _).mono ?_;rintro e w3 ⟨rfl,hk_w3⟩;dsimp only;clear pga fga lga;replace Bga:=jH hk_w3 Bga;replace HkW:=jX (HkW.out.tz hk_w3);clear hk_w3;obtain⟨pga,fga,lga⟩:=jQ Bga;go_wp2_with fail;refine (HS.out _).mono ?_;rintro e w4 ⟨rfl,hk_w4⟩;dsimp only;clear pga fga lga;replace Bga:=jH hk_w4 Bga;replace HkW:=jX (HkW.out.tz hk_w4);clear hk_w4;obtain⟨pga,fga,lga⟩:=jQ Bga;go_wp2_with fail;go_ret
    exact ⟨rfl,by repeat (first|(with_reducible exact HkW.out)|(refine Keep.sP ?_ _ _ _ (by omega))|(refine Keep.aP ?_ _)|(refine Keep.dP ?_))⟩
   have HRes:Hid (∀ q ok,QRoot r q ok→decide KK = !ok):=by
    intro q ok hq;cases ok with
    | true=>exact decide_eq_false (fun h=>(HK2.out h).sq (by dsimp only;grind) q (hq.1 rfl).2)
    | false=>exact decide_eq_true (HK1.out ⟨p,r,n⟩ ⟨by show (0:Rat)≤r;grind,fun h=>absurd h (by dsimp only;grind),fun _=>(hq.2 rfl).2⟩ rfl rfl rfl)
   generalize decide KK=res at *;rw [hsg] at HS
   have HR:Hid (∀ w:World,Calls prog 142 #[.agg #[.bool (sgB r.num),.string (mgS r.num),.bool false,.string (dnS r.den)]] w fun e w'=>∃ n s d ok,e = .returned (.tuple #[.agg #[.bool n,.string s,.bool false,.string d],.bool ok])∧res = !ok∧Keep [] w w'):=fun w=>(HR.out w).mono (fun e w' h=>by
    obtain⟨q,ok,he,hq,hk⟩:=h
    exact ⟨_,_,_,ok,he,HRes.out q ok hq,hk⟩)
   clear HRes HK1 HK2 hsg hr0;generalize sgB (p).num=a1 at *;generalize mgS (p).num=a2 at *;generalize dnS (p).den=a4 at *;generalize sgB (r).num=b1 at *;generalize mgS (r).num=b2 at *;generalize dnS (r).den=b4 at *;go_enter func134,ntmps134
   go_wp2_with fail;obtain⟨W,ga,hW,ega,Bga,hga,hgW,HkW⟩:=al1h w (.cells #[.bool a1,.string a2,.bool false,.string a4,.bool b1,.string b2,.bool false,.string b4,.bool n] 36);rw [← hW];try rw [ega]
   clear hW ega;obtain⟨pga,fga,lga⟩:=jQ Bga;go_wp2_with fail;refine (H1.out _).mono ?_;rintro e w1 ⟨rfl,hk_w1⟩;dsimp only;clear pga fga lga;replace Bga:=jH hk_w1 Bga;replace HkW:=jX (HkW.out.tz hk_w1);clear hk_w1;obtain⟨pga,fga,lga⟩:=jQ Bga;go_wp2_with fail;refine (H2.out _).mono ?_;rintro e w2 ⟨rfl,hk_w2⟩;dsimp only;clear pga fga lga;replace Bga:=jH hk_w2 Bga;replace HkW:=jX (HkW.out.tz hk_w2);clear hk_w2;obtain⟨pga,fga,lga⟩:=jQ Bga;go_wp2_with fail;refine (HS.out _).mono ?_;rintro e w3 ⟨rfl,hk_w3⟩;dsimp only;clear pga fga lga;replace Bga:=jH hk_w3 Bga;replace HkW:=jX (HkW.out.tz hk_w3);clear hk_w3;obtain⟨pga,fga,lga⟩:=jQ Bga;go_wp2_with fail;refine (HS.out _).mono ?_;rintro e w4 ⟨rfl,hk_w4⟩;dsimp only;clear pga fga lga;replace Bga:=jH hk_w4 Bga;replace HkW:=jX (HkW.out.tz hk_w4);clear hk_w4;obtain⟨pga,fga,lga⟩:=jQ Bga;go_wp2_with fail;refine (HR.out _).mono ?_;rintro e w5 ⟨qn,qs,qd,ok,rfl,rfl,hk_w5⟩;dsimp only;clear pga fga lga;replace Bga:=jH hk_w5 Bga;replace HkW:=jX (HkW.out.tz hk_w5);clear hk_w5;go_wp2_with fail;go_ret
   exact ⟨rfl,by repeat (first|(with_reducible exact HkW.out)|(refine Keep.sP ?_ _ _ _ (by omega))|(refine Keep.aP ?_ _)|(refine Keep.dP ?_))⟩
end
section
open Classical
theorem rchk_p (x:RawR) (hs:x.sz 1000000) (w:World):Calls prog 133 #[x.v] w fun e w'=>e = .returned (errF (decide x.isK))∧Below w.heap.size w w':=by
 obtain⟨a1,a2,a3,a4,b1,b2,b3,b4,n⟩:=x;obtain⟨hs1,hs2,hs3,hs4⟩:=hs;dsimp only at hs1 hs2 hs3 hs4;unfold RawR.v;dsimp only;have H1:=jX (qchk_c a1 a2 a3 a4 (by omega) (by omega));have H2:=jX (qchk_c b1 b2 b3 b4 (by omega) (by omega))
 have HX:Hid ((RawR.mk a1 a2 a3 a4 b1 b2 b3 b4 n).isK→chkQ a1 a2 a3 a4=true∧chkQ b1 b2 b3 b4=true):=by
  rintro ⟨q,hq,he⟩;unfold RawR.of at he;injection he with h1 h2 h3 h4 h5 h6 h7 h8 h9;exact ⟨ybY.2 ⟨q.p,h1,h2,h3,h4⟩,ybY.2 ⟨q.r,h5,h6,h7,h8⟩⟩
 clear hs1 hs2;cases hca:chkQ a1 a2 a3 a4 with
 | false =>
  rw [hca] at H1;rw [show errF false = .int .i64 5 from rfl] at H1
  have hres:decide (RawR.mk a1 a2 a3 a4 b1 b2 b3 b4 n).isK=false:=decide_eq_false (fun h=>by have:=(HX.out h).1;rw [hca] at this;cases this);rw [hres];clear hres hca HX hs3 hs4 H2;go_enter func133,ntmps133
  go_upto_region 1 with (fail)
  obtain⟨W,ga,hW,ega,Bga,hga,hgW,HkW⟩:=al1h w (.cells #[.bool a1,.string a2,.bool a3,.string a4,.bool b1,.string b2,.bool b3,.string b4,.bool n] 36);rw [← hW];try rw [ega]
  clear hW ega;obtain⟨pga,fga,lga⟩:=jQ Bga;go_wp2_with fail;refine (H1.out _).mono ?_;rintro e w1 ⟨rfl,hk_w1⟩;dsimp only;clear pga fga lga;replace Bga:=jH hk_w1 Bga;replace HkW:=jX (HkW.out.tz hk_w1);clear hk_w1;obtain⟨pga,fga,lga⟩:=jQ Bga;go_wp2_with fail;go_ret
  exact ⟨rfl,Keep.bz (by repeat (first|(with_reducible exact HkW.out)|(refine Keep.sP ?_ _ _ _ (by omega))|(refine Keep.aP ?_ _)|(refine Keep.dP ?_)))⟩
 | true =>
  rw [hca] at H1;rw [show errF true = .int .i64 0 from rfl] at H1
  cases hcb:chkQ b1 b2 b3 b4 with
  | false =>
   rw [hcb] at H2;rw [show errF false = .int .i64 5 from rfl] at H2
   have hres:decide (RawR.mk a1 a2 a3 a4 b1 b2 b3 b4 n).isK=false:=decide_eq_false (fun h=>by have:=(HX.out h).2;rw [hcb] at this;cases this);rw [hres];clear hres hca hcb HX hs3 hs4;go_enter func133,ntmps133
   go_upto_region 1 with (fail)
   obtain⟨W,ga,hW,ega,Bga,hga,hgW,HkW⟩:=al1h w (.cells #[.bool a1,.string a2,.bool a3,.string a4,.bool b1,.string b2,.bool b3,.string b4,.bool n] 36);rw [← hW];try rw [ega]
   clear hW ega;obtain⟨pga,fga,lga⟩:=jQ Bga;go_wp2_with fail;refine (H1.out _).mono ?_;rintro e w1 ⟨rfl,hk_w1⟩;dsimp only;clear pga fga lga;replace Bga:=jH hk_w1 Bga;replace HkW:=jX (HkW.out.tz hk_w1);clear hk_w1;obtain⟨pga,fga,lga⟩:=jQ Bga;go_wp2_with fail;refine (H2.out _).mono ?_;rintro e w2 ⟨rfl,hk_w2⟩;dsimp only;clear pga fga lga;replace Bga:=jH hk_w2 Bga;replace HkW:=jX (HkW.out.tz hk_w2);clear hk_w2;obtain⟨pga,fga,lga⟩:=jQ Bga;go_wp2_with fail;go_ret
   exact ⟨rfl,Keep.bz (by repeat (first|(with_reducible exact HkW.out)|(refine Keep.sP ?_ _ _ _ (by omega))|(refine Keep.aP ?_ _)|(refine Keep.dP ?_)))⟩
  | true =>
   rw [hcb] at H2;rw [show errF true = .int .i64 0 from rfl] at H2
   obtain⟨p,e1,e2,e3,e4⟩:=ybY.1 hca;obtain⟨r,e5,e6,e7,e8⟩:=ybY.1 hcb
   have hfit:FitQ 10000000 r:=by
    refine ⟨?_,?_⟩
    ·have:=hs3;rw [e6] at this;exact Nat.le_trans this (by decide)
    have:=hs4;rw [e8] at this;unfold dnS at this;unfold Fit mgS;rw [Int.natAbs_natCast];split at this
    ·rename_i h1;rw [h1];exact Nat.le_trans ((yaO 1 1).2 (by decide)) (by decide)
    exact Nat.le_trans this (by decide)
   have HR:=jX (proot_p r (hfit.mono (by decide)));have HS:=jX (QSign_c r);clear hs3 hs4 hca hcb hfit HX;subst e1 e2 e3 e4 e5 e6 e7 e8;have HK1:Hid (∀ q:Qn,q.Ok→q.p=p→q.r=r→q.neg=n→(RawR.mk (sgB p.num) (mgS p.num) false (dnS p.den) (sgB r.num) (mgS r.num) false (dnS r.den) n).isK):=fun q hq h1 h2 h3=>⟨q,hq,by unfold RawR.of;rw [h1,h2,h3]⟩
   have HK2:Hid ((RawR.mk (sgB p.num) (mgS p.num) false (dnS p.den) (sgB r.num) (mgS r.num) false (dnS r.den) n).isK→(⟨p,r,n⟩:Qn).Ok):=by
    rintro ⟨q,hq,he⟩;have:=RawR.of_inj (x:=⟨p,r,n⟩) (y:=q) he;rw [this];exact hq
   generalize (RawR.mk (sgB p.num) (mgS p.num) false (dnS p.den) (sgB r.num) (mgS r.num) false (dnS r.den) n).isK=KK at *;unfold rv at HR HS;have hsg:=yaM r;unfold RootP rv at HR;rcases hsg with ⟨hr0,hsg⟩|⟨hr0,hsg⟩|⟨hr0,hsg⟩
   ·have hres:decide KK=false:=decide_eq_false (fun h=>by have:=(HK2.out h).nn;dsimp only at this;grind)
    rw [hres];rw [hsg] at HS;clear hres HK1 HK2 hsg HR hr0;generalize sgB (p).num=a1 at *;generalize mgS (p).num=a2 at *;generalize dnS (p).den=a4 at *;generalize sgB (r).num=b1 at *;generalize mgS (r).num=b2 at *;generalize dnS (r).den=b4 at *;go_enter func133,ntmps133
    go_upto_region 1 with (fail)
    obtain⟨W,ga,hW,ega,Bga,hga,hgW,HkW⟩:=al1h w (.cells #[.bool a1,.string a2,.bool false,.string a4,.bool b1,.string b2,.bool false,.string b4,.bool _] 36);rw [← hW];try rw [ega]
    clear hW ega;obtain⟨pga,fga,lga⟩:=jQ Bga;go_wp2_with fail;refine (H1.out _).mono ?_;rintro e w1 ⟨rfl,hk_w1⟩;dsimp only;clear pga fga lga;replace Bga:=jH hk_w1 Bga;replace HkW:=jX (HkW.out.tz hk_w1);clear hk_w1;obtain⟨pga,fga,lga⟩:=jQ Bga;go_wp2_with fail;refine (H2.out _).mono ?_;rintro e w2 ⟨rfl,hk_w2⟩;dsimp only;clear pga fga lga;replace Bga:=jH hk_w2 Bga;replace HkW:=jX (HkW.out.tz hk_w2);clear hk_w2;obtain⟨pga,fga,lga⟩:=jQ Bga;go_wp2_with fail;refine (HS.out _).mono ?_;rintro e w3 ⟨rfl,hk_w3⟩;dsimp only;clear pga fga lga;replace Bga:=jH hk_w3 Bga;replace HkW:=jX (HkW.out.tz hk_w3);clear hk_w3;obtain⟨pga,fga,lga⟩:=jQ Bga;go_wp2_with fail;go_ret
    exact ⟨rfl,Keep.bz (by repeat (first|(with_reducible exact HkW.out)|(refine Keep.sP ?_ _ _ _ (by omega))|(refine Keep.aP ?_ _)|(refine Keep.dP ?_)))⟩
   ·have hres : decide KK = !n := by
     cases n with
     | true=>exact decide_eq_false (fun h=>by have:=(HK2.out h).zero hr0;cases this)
     | false=>exact decide_eq_true (HK1.out ⟨p,r,false⟩ ⟨by show (0:Rat)≤r;rw [hr0];grind,fun _=>rfl,fun h=>absurd hr0 h⟩ rfl rfl rfl)
    rw [hres];rw [hsg] at HS;clear hres HK1 HK2 hsg HR hr0;generalize sgB (p).num=a1 at *;generalize mgS (p).num=a2 at *;generalize dnS (p).den=a4 at *;generalize sgB (r).num=b1 at *;generalize mgS (r).num=b2 at *;generalize dnS (r).den=b4 at *;cases n
    all_goals
     go_enter func133,ntmps133
     go_upto_region 1 with (fail)
     obtain⟨W,ga,hW,ega,Bga,hga,hgW,HkW⟩:=al1h w (.cells #[.bool a1,.string a2,.bool false,.string a4,.bool b1,.string b2,.bool false,.string b4,.bool _] 36);rw [← hW];try rw [ega]
     clear hW ega;obtain⟨pga,fga,lga⟩:=jQ Bga;go_wp2_with fail;refine (H1.out _).mono ?_;rintro e w1 ⟨rfl,hk_w1⟩;dsimp only;clear pga fga lga;replace Bga:=jH hk_w1 Bga;replace HkW:=jX (HkW.out.tz hk_w1);clear hk_w1;obtain⟨pga,fga,lga⟩:=jQ Bga;go_wp2_with fail;refine (H2.out _).mono ?_;rintro e w2 ⟨rfl,hk_w2⟩;dsimp only;clear pga fga lga;replace Bga:=jH hk_w2 Bga;replace HkW:=jX (HkW.out.tz hk_w2);clear hk_w2;obtain⟨pga,fga,lga⟩:=jQ Bga;go_wp2_with fail;refine (HS.out _).mono ?_;rintro e w3 ⟨rfl,hk_w3⟩;dsimp only;clear pga fga lga;replace Bga:=jH hk_w3 Bga;replace HkW:=jX (HkW.out.tz hk_w3);clear hk_w3;obtain⟨pga,fga,lga⟩:=jQ Bga;go_wp2_with fail;go_ret
     exact ⟨rfl,Keep.bz (by repeat (first|(with_reducible exact HkW.out)|(refine Keep.sP ?_ _ _ _ (by omega))|(refine Keep.aP ?_ _)|(refine Keep.dP ?_)))⟩
   have HRes:Hid (∀ q ok,QRoot r q ok→decide KK = !ok):=by
    intro q ok hq;cases ok with
    | true=>exact decide_eq_false (fun h=>(HK2.out h).sq (by dsimp only;grind) q (hq.1 rfl).2)
    | false=>exact decide_eq_true (HK1.out ⟨p,r,n⟩ ⟨by show (0:Rat)≤r;grind,fun h=>absurd h (by dsimp only;grind),fun _=>(hq.2 rfl).2⟩ rfl rfl rfl)
   generalize decide KK=res at *;rw [hsg] at HS
   have HR:Hid (∀ w:World,Calls prog 169 #[.agg #[.bool (sgB r.num),.string (mgS r.num),.bool false,.string (dnS r.den)]] w fun e w'=>∃ n s d ok,e = .returned (.tuple #[.agg #[.bool n,.string s,.bool false,.string d],.bool ok])∧res = !ok∧Below w.heap.size w w'):=fun w=>(HR.out w).mono (fun e w' h=>by
    obtain⟨q,ok,he,hq,hk⟩:=h
    exact ⟨_,_,_,ok,he,HRes.out q ok hq,hk⟩)
   clear HRes HK1 HK2 hsg hr0;generalize sgB (p).num=a1 at *;generalize mgS (p).num=a2 at *;generalize dnS (p).den=a4 at *;generalize sgB (r).num=b1 at *;generalize mgS (r).num=b2 at *;generalize dnS (r).den=b4 at *;go_enter func133,ntmps133
   go_upto_region 1 with (fail)
   obtain⟨W,ga,hW,ega,Bga,hga,hgW,HkW⟩:=al1h w (.cells #[.bool a1,.string a2,.bool false,.string a4,.bool b1,.string b2,.bool false,.string b4,.bool _] 36);rw [← hW];try rw [ega]
   clear hW ega;obtain⟨pga,fga,lga⟩:=jQ Bga;go_wp2_with fail;refine (H1.out _).mono ?_;rintro e w1 ⟨rfl,hk_w1⟩;dsimp only;clear pga fga lga;replace Bga:=jH hk_w1 Bga;replace HkW:=jX (HkW.out.tz hk_w1);clear hk_w1;obtain⟨pga,fga,lga⟩:=jQ Bga;go_wp2_with fail;refine (H2.out _).mono ?_;rintro e w2 ⟨rfl,hk_w2⟩;dsimp only;clear pga fga lga;replace Bga:=jH hk_w2 Bga;replace HkW:=jX (HkW.out.tz hk_w2);clear hk_w2;obtain⟨pga,fga,lga⟩:=jQ Bga;go_wp2_with fail;refine (HS.out _).mono ?_;rintro e w3 ⟨rfl,hk_w3⟩;dsimp only;clear pga fga lga;replace Bga:=jH hk_w3 Bga;replace HkW:=jX (HkW.out.tz hk_w3);clear hk_w3;obtain⟨pga,fga,lga⟩:=jQ Bga;go_wp2_with fail;have Hk:=jX HkW.out;refine (HR.out _).mono ?_;rintro e w5 ⟨qn,qs,qd,ok,rfl,rfl,hk_w5⟩;dsimp only;have HB:=jX ((Hk.out.bz).trans (Below.mono hk_w5 Hk.out.size));clear pga fga lga hk_w5;cases ok
   all_goals
    go_upto_region 11 with (fail)
    obtain⟨W2,gc,hW2,egc,bgc,hgc,hgW2,hkW2⟩:=al1 w5 (.cells #[.bool qn,.string qs,.bool false,.string qd] 34);rw [← hW2];try rw [egc]
    have Bgc:=jX bgc;clear hW2 egc bgc;have HB2:=jX (HB.out.trans (Below.mono hkW2.bz HB.out.size));go_wp2_with fail;go_ret
    exact ⟨rfl,HB2.out⟩
end
end Go.Proofs.YtejegogbhpmgfaaGreatDoor
