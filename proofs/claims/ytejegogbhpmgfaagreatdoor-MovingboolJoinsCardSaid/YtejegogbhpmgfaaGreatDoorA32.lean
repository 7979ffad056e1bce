/- Parts of a proof about this translation: Tk, Ue, Uf, Sw, Sx, Uh, Ui, Va. -/
import Derived.Deep.Slices
import Derived.Lib.SmallJoins
import Derived.Test.YtejegogbhpmgfaaGreatDoorA31
import Derived.Test.YtejegogbhpmgfaaGreatDoorA18
import Derived.Test.YtejegogbhpmgfaaGreatDoorA30
import Derived.Test.YtejegogbhpmgfaaGreatDoorA25
import Derived.Test.YtejegogbhpmgfaaGreatDoorA27
import Derived.Test.YtejegogbhpmgfaaGreatDoorA13
import Derived.Test.YtejegogbhpmgfaaGreatDoorA26
set_option linter.unusedVariables false
set_option linter.unusedSimpArgs false
set_option maxRecDepth 100000
set_option maxHeartbeats 8000000
namespace Go.Proofs.YtejegogbhpmgfaaGreatDoor
open Go.RowKit
def spcells (s:SpanA):List Value:=[.int .u8 s.a.P,.int .u8 s.a.D,.int .u8 s.a.R,.int .u8 s.a.E,.bool s.a.neg,.int .u8 s.b.P,.int .u8 s.b.D,.int .u8 s.b.R,.int .u8 s.b.E,.bool s.b.neg,.bool s.oa,.bool s.ob]
theorem spcells_len (s:SpanA):(spcells s).length=12:=rfl
abbrev SpR:=RowE (fun s:SpanA=>spcells s)
theorem infoSpan:∃ ie,Tryz.prog.info? 129=some ie∧ie.size=12:=by
 have h:(Tryz.prog.info? 129).map (·.size)=some 12:=by kernel_rfl
 cases hi:Tryz.prog.info? 129 with
 | none=>rw [hi] at h;cases h
 | some ie=>rw [hi] at h;exact ⟨ie,rfl,by simpa using h⟩
theorem load_span (w:World) (b o:Nat) (s:SpanA) (hc:∀ k v,(spcells s)[k]? = some v→w.cell? ⟨b,o+k,none⟩=some v):(loadVar 129 ⟨b,o,none⟩).run Tryz.prog w = .ok s.v w:=by
 obtain⟨ie,hie,hs⟩:=infoSpan
 exact Go.Lib.rl_loadVar_cells 129 ie hie Tryz.isAgg129 b o (spcells s) (by rw [hs];rfl) w hc
theorem SpR.elem {w:World} {a:Option Addr} {n c:Nat} {l:List SpanA} (h:SpR w (.slice a n c) l) (i:Nat) (hi:i<l.length):∃ g o,a=some ⟨g,o,none⟩∧g<w.heap.size∧∀ j v,(spcells l[i])[j]? = some v→w.cell? ⟨g,o+i*12+j,none⟩=some v:=RowE.elem spcells_len h i hi
theorem span_keep {w w':World} {g p:Nat} {s:SpanA} (h:∀ j v,(spcells s)[j]? = some v→w.cell? ⟨g,p+j,none⟩=some v) (hb:w'.heap[g]? = w.heap[g]?):∀ j v,(spcells s)[j]? = some v→w'.cell? ⟨g,p+j,none⟩=some v:=fun j v hj=>by
 rw [World.cell?_of_block hb];exact h j v hj
def SpQ (w:World) (v:Value) (l:List SpanA):Prop:=∃ (a:Option Addr) (c:Nat),v = .slice a l.length c∧(l=[]∨SpR w v l)
theorem SpQ.elem {w:World} {a:Option Addr} {n c:Nat} {l:List SpanA} (h:SpQ w (.slice a n c) l) (i:Nat) (hi:i<l.length):∃ g o,a=some ⟨g,o,none⟩∧g<w.heap.size∧∀ j v,(spcells l[i])[j]? = some v→w.cell? ⟨g,o+i*12+j,none⟩=some v:=by
 obtain⟨_,_,_,h|h⟩:=h
 ·subst h;simp at hi
 ·exact SpR.elem h i hi
theorem SpQ.later {w w':World} {v:Value} {l:List SpanA} (h:SpQ w v l) (hk:Keep [] w w'):SpQ w' v l:=by
 obtain⟨a,c,h1,h2⟩:=h
 exact ⟨a,c,h1,h2.imp id (fun h=>h.later hk)⟩
noncomputable def ivsOf (l:List SpanA):List (Iv K):=(l.take 8).map SpanA.i
theorem intervals_c (l:List SpanA) (w:World) (sv:Value) (hr:SpQ w sv l) (h9:l.length≤9223372036854775807) :
  Calls Tryz.prog 89 #[sv] w fun e w'=>∃ v,e = .returned v∧IvR w' v (ivsOf l)∧Keep [] w w':=by
 have HR:=jX hr
 have HC:=jX (fun s w=>interval_c s w)
 obtain⟨ao,ac,rfl,_⟩:=hr
 go_enter Tryz.func89,Tryz.ntmps89
 go_wp2_with fail
 go_loopw [3,4] (fun ov c wr=>∃ k:Nat,k≤l.length∧k≤8∧c = .int .i64 (k:Int)∧OI_ w wr ov ((l.take k).map SpanA.i)) (fun _ c _=>l.length-(intOf c).toNat)
 case atStart=>exact ⟨0,Nat.zero_le _,Nat.zero_le _,rfl,OE.nil w⟩
 case round =>
  obtain⟨k,hk,hk8,rfl,hov⟩:=hrel
  obtain⟨out,hout⟩:∃ out,(l.take k).map SpanA.i=out:=⟨_,rfl⟩
  rw [hout] at hov
  have Hlen:=jX (show out.length=k by rw [← hout,List.length_map,List.length_take,Nat.min_eq_left hk])
  have Hout:=jX hout
  have HO:=jX hov
  obtain⟨oo,oc,rfl⟩:=hov.form
  clear hov hout
  by_cases hlt:k<l.length
  ·by_cases hlt8:k<8
   ·obtain⟨g,o,rfl,hg,hat⟩:=SpQ.elem HR.out k hlt
    have Hstep:Hid ((l.take (k+1)).map SpanA.i=(l.take k).map SpanA.i++[l[k].i]):=by rw [List.take_succ_eq_append_getElem hlt,List.map_append];rfl
    generalize l[k]=s at *
    obtain⟨p,hp⟩:∃ p,o+k*12=p:=⟨_,rfl⟩
    rw [hp] at hat
    have HL:=jX (load_span wr g p s (span_keep hat (HO.out.keep.block g hg (by simp))))
    have H1:=jX (HC.out s)
    clear hat
    go_upto_region 5 with (fail)
    refine wp_region_lit ?_
    refine' wpList_R (v:=_) (by rfl) (?hruna) (fun K hK=>?hnexta)
    case hruna=>(go_simp;try rfl)
    go_simp
    refine hK _ _ ?_
    clear hK K
    refine' wpList_R (v:=_) (by rfl) (?hrunb) (fun K hK=>?hnextb)
    case hrunb=>(go_simp;try rfl)
    go_simp
    refine hK _ _ ?_
    clear hK K
    refine' wpList_R (v:=_) (by rfl) (?hrunc) (fun K hK=>?hnextc)
    case hrunc=>(go_simp;try rfl)
    go_simp
    refine hK _ _ ?_
    clear hK K
    refine' wpList_R (v:=_) (by rfl) (?hrund) (fun K hK=>?hnextd)
    case hrund=>(go_simp;try rfl)
    go_simp
    refine hK _ _ ?_
    clear hK K
    refine wpList_R (v:=s.v) (by rfl) (exec_load _ _ ⟨g,p,none⟩ _ rfl rfl HL.out) (fun K hK=>?_)
    go_simp
    refine hK _ _ ?_
    clear hK K
    refine wpList_plain (by rfl) (fun K hK=>?_)
    refine wp_enter 131 #[s.v] (by go_simp) ?_
    refine (H1.out _).mono ?_
    rintro e w5 ⟨rfl,hk5⟩
    refine ⟨_,rfl,?_⟩
    go_simp
    refine hK _ _ ?_
    clear hK K
    obtain⟨ub,gx,e3,e4,hz1,hkx,hx⟩:=IvR.single s.i w5
    have hW:=hk5.trans0 hkx
    refine wpList_K (v:=.slice (some ⟨w5.heap.size,0,none⟩) 1 1) (by rfl) (exec_bs 27 1 #[(0,.tmp 20)] #[(0,iv s.i)] _ rfl (by simp only [List.map_toArray,List.map_cons,List.map_nil];rfl) (build1_i s.i _)) (fun K hK=>?_)
    rw [e3,e4]
    clear e3
    go_simp
    refine hK _ _ ?_
    clear hK K
    obtain⟨v4,u4,hr4,ho4,hn4,_⟩:=IvR.app (ty:=27) (HO.out.later hW) (.inr (by simp)) hx (by rw [Hlen.out];simp;omega)
    refine wpList_K (by rfl) (exec_app (.tmp 15) (.tmp 21) 27 _ _ _ rfl rfl rfl hr4) (fun K hK=>?_)
    go_simp
    refine hK _ _ ?_
    clear hK K hr4 hx hkx hW hk5
    have HN:=jX ho4
    obtain⟨no,nc,rfl⟩:=ho4.form
    clear ho4 hn4
    go_wp2_with fail
    go_roundw
    case rel=>exact ⟨k+1,by omega,by omega,congrArg (Value.int .i64) (by omega),by rw [Hstep.out,Hout.out];exact HN.out⟩
    case measure=>simp [intOf];omega
   ·obtain rfl:k=8:=by omega
    have HF:Hid (out=ivsOf l):=Hout.out.symm
    go_wp2_with fail
    go_ret
    exact ⟨_,rfl,by rw [← HF.out];exact HO.out.read,HO.out.keep⟩
  ·have hkl:l.take k=l.take 8:=by rw [List.take_of_length_le (by omega),List.take_of_length_le (by omega)]
   have HF:Hid (out=ivsOf l):=by
    unfold ivsOf
    rw [← hkl]
    exact Hout.out.symm
   clear hkl
   go_wp2_with fail
   go_ret
   exact ⟨_,rfl,by rw [← HF.out];exact HO.out.read,HO.out.keep⟩
theorem sweep_comb {op:Int} {a b out:List (Iv K)} (h1:Norm out) (h2:∀ x,hasL out x=decV op (hasL a x) (hasL b x)):out=combK op a b:=(combK_eq h1 h2).symm
theorem Union_c (a b:Bool) (w:World):Calls Tryz.prog 110 #[.bool a,.bool b] w fun e w'=>e = .returned (.bool (decV 1 a b))∧Keep [] w w':=by
 cases a<;>cases b
 all_goals
  go_enter Tryz.func110,Tryz.ntmps110
  go_wp2_with fail
  go_ret
  exact ⟨rfl,Keep.refl _ _⟩
theorem Union_p (a b:List (Iv K)) (ha:∀ i∈a,i.f<i.l) (hb:∀ i∈b,i.f<i.l) (w:World) (sv tv:Value) (hr:IvR w sv a) (hs:IvR w tv b) (h9:a.length≤10000) (h8:b.length≤10000) :
  Calls Tryz.prog 70 #[sv,tv] w fun e w'=>∃ v,e = .returned v∧IvR w' v (combK 1 a b)∧Keep [] w w':=by
 have H:=jX (sweep_c (decV 1) 110 (enters_of Tryz.func110 (by kernel_rfl) rfl) (fun x y w=>Union_c x y w) (decV_zero 1) a b ha hb w sv tv hr hs h9 h8)
 obtain⟨ao,ac,rfl,_⟩:=hr.form
 obtain⟨bo,bc,rfl,_⟩:=hs.form
 clear hr hs ha hb
 go_enter Tryz.func70,Tryz.ntmps70
 go_wp2_with fail
 refine H.out.mono ?_
 rintro e w1 ⟨v,out,rfl,hv,h1,h2,hk⟩
 dsimp only
 have HV:=jX (show IvR w1 v (combK 1 a b) by rw [← sweep_comb h1 h2];exact hv)
 have HK:=jX hk
 obtain⟨vo,vc,rfl,_⟩:=hv.form
 clear hv h1 h2 hk
 go_wp2_with fail
 go_ret
 exact ⟨_,rfl,HV.out,HK.out⟩
theorem Intersect_c (a b:Bool) (w:World):Calls Tryz.prog 111 #[.bool a,.bool b] w fun e w'=>e = .returned (.bool (decV 2 a b))∧Keep [] w w':=by
 cases a<;>cases b
 all_goals
  go_enter Tryz.func111,Tryz.ntmps111
  go_wp2_with fail
  go_ret
  exact ⟨rfl,Keep.refl _ _⟩
theorem Intersect_p (a b:List (Iv K)) (ha:∀ i∈a,i.f<i.l) (hb:∀ i∈b,i.f<i.l) (w:World) (sv tv:Value) (hr:IvR w sv a) (hs:IvR w tv b) (h9:a.length≤10000) (h8:b.length≤10000) :
  Calls Tryz.prog 71 #[sv,tv] w fun e w'=>∃ v,e = .returned v∧IvR w' v (combK 2 a b)∧Keep [] w w':=by
 have H:=jX (sweep_c (decV 2) 111 (enters_of Tryz.func111 (by kernel_rfl) rfl) (fun x y w=>Intersect_c x y w) (decV_zero 2) a b ha hb w sv tv hr hs h9 h8)
 obtain⟨ao,ac,rfl,_⟩:=hr.form
 obtain⟨bo,bc,rfl,_⟩:=hs.form
 clear hr hs ha hb
 go_enter Tryz.func71,Tryz.ntmps71
 go_wp2_with fail
 refine H.out.mono ?_
 rintro e w1 ⟨v,out,rfl,hv,h1,h2,hk⟩
 dsimp only
 have HV:=jX (show IvR w1 v (combK 2 a b) by rw [← sweep_comb h1 h2];exact hv)
 have HK:=jX hk
 obtain⟨vo,vc,rfl,_⟩:=hv.form
 clear hv h1 h2 hk
 go_wp2_with fail
 go_ret
 exact ⟨_,rfl,HV.out,HK.out⟩
theorem Minus_c (a b:Bool) (w:World):Calls Tryz.prog 109 #[.bool a,.bool b] w fun e w'=>e = .returned (.bool (decV 3 a b))∧Keep [] w w':=by
 cases a<;>cases b
 all_goals
  go_enter Tryz.func109,Tryz.ntmps109
  go_wp2_with fail
  go_ret
  exact ⟨rfl,Keep.refl _ _⟩
theorem Minus_p (a b:List (Iv K)) (ha:∀ i∈a,i.f<i.l) (hb:∀ i∈b,i.f<i.l) (w:World) (sv tv:Value) (hr:IvR w sv a) (hs:IvR w tv b) (h9:a.length≤10000) (h8:b.length≤10000) :
  Calls Tryz.prog 66 #[sv,tv] w fun e w'=>∃ v,e = .returned v∧IvR w' v (combK 3 a b)∧Keep [] w w':=by
 have H:=jX (sweep_c (decV 3) 109 (enters_of Tryz.func109 (by kernel_rfl) rfl) (fun x y w=>Minus_c x y w) (decV_zero 3) a b ha hb w sv tv hr hs h9 h8)
 obtain⟨ao,ac,rfl,_⟩:=hr.form
 obtain⟨bo,bc,rfl,_⟩:=hs.form
 clear hr hs ha hb
 go_enter Tryz.func66,Tryz.ntmps66
 go_wp2_with fail
 refine H.out.mono ?_
 rintro e w1 ⟨v,out,rfl,hv,h1,h2,hk⟩
 dsimp only
 have HV:=jX (show IvR w1 v (combK 3 a b) by rw [← sweep_comb h1 h2];exact hv)
 have HK:=jX hk
 obtain⟨vo,vc,rfl,_⟩:=hv.form
 clear hv h1 h2 hk
 go_wp2_with fail
 go_ret
 exact ⟨_,rfl,HV.out,HK.out⟩
theorem rcombine_c (op:Int) (hop:op=1∨op=2∨op=3) (a b:List (Iv K)) (w:World) (sv tv:Value) (hr:IvR w sv a) (hs:IvR w tv b) (h9:a.length≤10000) (h8:b.length≤10000) :
  Calls Tryz.prog 50 #[.int .i64 op,sv,tv] w fun e w'=>∃ v,e = .returned v∧IvR w' v (combK op a b)∧Keep [] w w':=combine_c op hop a b w sv tv hr hs h9 h8
theorem rnormal_c (a:List (Iv K)) (w:World) (sv:Value) (hr:IvR w sv a) (h9:a.length≤10000) :
  Calls Tryz.prog 88 #[sv] w fun e w'=>∃ v,e = .returned v∧IvR w' v (normK a)∧Keep [] w w':=by
 have H:=jX (rcombine_c 1 (.inl rfl) a [] w sv (.slice none 0 0) hr (RowE.nil w) h9 (by simp))
 obtain⟨ao,ac,rfl,_⟩:=hr.form
 clear hr
 go_enter Tryz.func88,Tryz.ntmps88
 go_wp2_with fail
 refine H.out.mono ?_
 rintro e w1 ⟨v,rfl,hv,hk⟩
 dsimp only
 have HV:=jX hv
 have HK:=jX hk
 obtain⟨vo,vc,rfl,_⟩:=hv.form
 clear hv hk
 go_wp2_with fail
 go_ret
 exact ⟨_,rfl,HV.out,HK.out⟩
noncomputable def perOf (l:List SpanA):List (Iv K):=normK (ivsOf l)
theorem ivsOf_len (l:List SpanA):(ivsOf l).length≤8:=by unfold ivsOf;rw [List.length_map,List.length_take];omega
theorem perOf_norm (l:List SpanA):Norm (perOf l):=combK_norm _ _ _
theorem perOf_per (l:List SpanA):Per (ptsL (ivsOf l)) (perOf l):=combK_per _ (PtsIn.self _) (PtsIn.nil _)
theorem ptsOf_len (l:List SpanA):(ptsL (ivsOf l)).length≤16:=by rw [ptsL_len];have:=ivsOf_len l;omega
theorem lperiod_c (l:List SpanA) (w:World) (sv:Value) (hr:SpQ w sv l) (h9:l.length≤9223372036854775807) :
  Calls Tryz.prog 45 #[sv] w fun e w'=>∃ v,e = .returned v∧IvR w' v (perOf l)∧Keep [] w w':=by
 have H:=jX (intervals_c l w sv hr h9)
 have H2:=jX (fun w v (h:IvR w v (ivsOf l))=>rnormal_c (ivsOf l) w v h (by have:=ivsOf_len l;omega))
 obtain⟨ao,ac,rfl,_⟩:=hr
 go_enter Tryz.func45,Tryz.ntmps45
 go_wp2_with fail
 refine H.out.mono ?_
 rintro e w1 ⟨v,rfl,hv,hk⟩
 dsimp only
 have HV:=jX hv
 have HK:=jX hk
 obtain⟨vo,vc,rfl,_⟩:=hv.form
 clear hv hk H
 go_wp2_with fail
 refine (H2.out _ _ HV.out).mono ?_
 rintro e w2 ⟨v,rfl,hv,hk⟩
 dsimp only
 have HV2:=jX hv
 have HK2:=jX (HK.out.trans0 hk)
 obtain⟨vo,vc,rfl,_⟩:=hv.form
 clear hv hk H2 HV HK
 go_wp2_with fail
 go_ret
 exact ⟨_,rfl,HV2.out,HK2.out⟩
def kQ (q:Rat) (h:FitQ 100000 q):K:=⟨⟨q,0,false⟩,⟨by show (0:Rat)≤0;grind,fun _=>rfl,fun h=>absurd rfl h⟩,h,fit0.mono (by decide)⟩
theorem cmp_frac (a b:Rat):cmpQ ⟨a,0,false⟩ ⟨b,0,false⟩=sgn (a-b):=by
 have h1:sg1 (a-b) (Qn.u ⟨a,0,false⟩) 0=sgn (a-b):=by
  unfold sg1
  rw [sgn_zero,Int.mul_zero,if_pos (.inl rfl)]
 unfold cmpQ
 dsimp only
 rw [sgn_zero,Int.mul_zero,if_pos (.inl rfl),h1]
theorem kQ_lt {a b:Rat} {ha:FitQ 100000 a} {hb:FitQ 100000 b}:kQ a ha<kQ b hb↔a<b:=by
 rw [← K.cmp_neg]
 show cmpQ ⟨a,0,false⟩ ⟨b,0,false⟩ = -1↔_
 rw [cmp_frac]
 rcases sgn_cases (a-b) with ⟨h,h2⟩|⟨h,h2⟩|⟨h,h2⟩<;>rw [h2]<;>constructor<;>intro h3<;>first|grind|(exact absurd h3 (by decide))
theorem fit_nat1 (n:Nat) (h:n<256):FitQ 1 (n:Rat):=by
 refine ⟨?_,?_⟩
 ·rw [Fit_iff]
  have e:(n:Rat).num=(n:Int):=rfl
  rw [e]
  simpa using h
 ·rw [Fit_iff]
  have e:(n:Rat).den=1:=rfl
  rw [e]
  decide
theorem fit_nat (n:Nat) (h:n<256):FitQ 100000 (n:Rat):=(fit_nat1 n h).mono (by decide)
def kN (n:Nat) (h:n<256):K:=kQ n (fit_nat n h)
theorem kN_lt {m n:Nat} {hm:m<256} {hn:n<256}:kN m hm<kN n hn↔m<n:=by
 unfold kN
 rw [kQ_lt]
 exact_mod_cast Iff.rfl
theorem divInt_nat (n:Nat):Rat.divInt (n:Int) 1=(n:Rat):=by
 exact Rat.num_divInt_den (n:Rat)
theorem real_built (n:Bool) (s d:ByteArray):Tryz.prog.built 36 [(0,.agg #[.bool n,.string s,.bool false,.string d])]=some #[.bool n,.string s,.bool false,.string d,.bool false,.string ⟨#[]⟩,.bool false,.string ⟨#[]⟩,.bool false]:=by kernel_rfl
theorem kQ_C (q:Rat) (h:FitQ 100000 q):kC (kQ q h) = #[.bool (sgB q.num),.string (mgS q.num),.bool false,.string (dnS q.den),.bool false,.string ⟨#[]⟩,.bool false,.string ⟨#[]⟩,.bool false]:=by
 have h1:sgB (0:Rat).num=false:=by decide
 have h2:mgS (0:Rat).num=⟨#[]⟩:=mg_empty.2 rfl
 have h3:dnS (0:Rat).den=⟨#[]⟩:=by unfold dnS;rfl
 unfold kC kQ kcells
 dsimp only
 rw [h1,h2,h3]
theorem real_built' (q:Rat) (h:FitQ 100000 q):Tryz.prog.built 36 [(0,rv q)]=some (kC (kQ q h)):=by
 rw [kQ_C]
 exact real_built _ _ _
theorem eqR_dec (x y:Qn):((((sgB x.p.num == sgB y.p.num)&&decide (mgS x.p.num=mgS y.p.num))&&((false == false)&&decide (dnS x.p.den=dnS y.p.den)))&&((((sgB x.r.num == sgB y.r.num)&&decide (mgS x.r.num=mgS y.r.num))&&((false == false)&&decide (dnS x.r.den=dnS y.r.den)))&&(x.neg == y.neg)))=(decide (x.p=y.p)&&(decide (x.r=y.r)&&(x.neg == y.neg))):=by
 rw [eqQ_dec,eqQ_dec]
theorem Qn.eq_dec (x y:Qn):(decide (x.p=y.p)&&(decide (x.r=y.r)&&(x.neg == y.neg)))=true↔x=y:=by
 obtain⟨p,r,n⟩:=x
 obtain⟨p',r',n'⟩:=y
 simp
theorem K.ext_iff {x y:K}:x=y↔x.1=y.1:=Subtype.ext_iff
open Classical in
theorem eqI_dec (i j:Iv K):((decide (i.f.pt.1.p=j.f.pt.1.p)&&(decide (i.f.pt.1.r=j.f.pt.1.r)&&(i.f.pt.1.neg == j.f.pt.1.neg)))&&((decide (i.l.pt.1.p=j.l.pt.1.p)&&(decide (i.l.pt.1.r=j.l.pt.1.r)&&(i.l.pt.1.neg == j.l.pt.1.neg)))&&((i.f.beh == j.f.beh)&&((!i.l.beh) == (!j.l.beh)))))=decide (i=j):=by
 rw [Bool.eq_iff_iff,decide_eq_true_iff,Bool.and_eq_true,Qn.eq_dec,Bool.and_eq_true,Qn.eq_dec,← K.ext_iff,← K.ext_iff]
 obtain⟨⟨a,b⟩,⟨c,d⟩⟩:=i
 obtain⟨⟨a',b'⟩,⟨c',d'⟩⟩:=j
 simp
 constructor
 ·rintro ⟨rfl,rfl,rfl,h⟩
  exact ⟨⟨rfl,rfl⟩,rfl,h⟩
 ·rintro ⟨⟨rfl,rfl⟩,rfl,h⟩
  exact ⟨rfl,rfl,rfl,h⟩
open Classical
theorem eqI_in (d:Nat) (x0 x1 x2 x3 x4 x5 x6 x7 x8 y0 y1 y2 y3 y4 y5 y6 y7 y8 u0 u1 u2 u3 u4 u5 u6 u7 u8 v0 v1 v2 v3 v4 v5 v6 v7 v8:Value) (o1 c1 o2 c2 k1 k2:Bool)
  (e1:∀ w,(Op.equalIn (d+4) 36 (.agg #[x0,x1,x2,x3,x4,x5,x6,x7,x8]) (.agg #[u0,u1,u2,u3,u4,u5,u6,u7,u8])).run Tryz.prog w = .ok k1 w) (e2:∀ w,(Op.equalIn (d+4) 36 (.agg #[y0,y1,y2,y3,y4,y5,y6,y7,y8]) (.agg #[v0,v1,v2,v3,v4,v5,v6,v7,v8])).run Tryz.prog w = .ok k2 w) (w:World) :
  (Op.equalIn (d+5) 49 (.agg #[x0,x1,x2,x3,x4,x5,x6,x7,x8,y0,y1,y2,y3,y4,y5,y6,y7,y8,.bool o1,.bool c1]) (.agg #[u0,u1,u2,u3,u4,u5,u6,u7,u8,v0,v1,v2,v3,v4,v5,v6,v7,v8,.bool o2,.bool c2])).run Tryz.prog w = .ok (k1&&(k2&&((o1 == o2)&&(c1 == c2)))) w:=by
 have u3:=Tryz.underlying36
 have a3:=Tryz.isAgg36
 have z3:=Tryz.sizeOf36
 have u4:=Tryz.underlying4
 have aa4:=Tryz.isAgg4
 have z4:=Tryz.sizeOf4
 have hS:Tryz.prog.underlying 49=some (.struct (Tryz.prog.fieldsOf 49)):=by kernel_rfl
 have hp:Tryz.prog.stoodInHeld 49=false:=by kernel_rfl
 rw [run_equalIn_agg w (d+4) 49 _ _ hS hp]
 simp only [Program.fieldsOf,Tryz.underlying49]
 go_simp
 cases k1<;>cases k2<;>cases o1<;>cases o2<;>cases c1<;>cases c2<;>simp
theorem eqI_g:Tryz.prog.eqGuardType Tryz.prog.depth 49=false:=by kernel_rfl
theorem neqR_run (x y:K) (w:World):(binOp .neq 36 (kv x) (kv y)).run Tryz.prog w = .ok (.bool (!decide (x=y))) w:=by
 rw [kv_cells,kv_cells,run_neq_struct,show (10000:Nat)=9996+4 from rfl,eqR_in,eqR_dec]
 have h:(decide (x.1.p=y.1.p)&&(decide (x.1.r=y.1.r)&&(x.1.neg == y.1.neg)))=decide (x=y):=by rw [Bool.eq_iff_iff,Qn.eq_dec,decide_eq_true_iff,K.ext_iff]
 rw [h];rfl
theorem eqR_run (x y:K) (w:World):(binOp .eql 36 (kv x) (kv y)).run Tryz.prog w = .ok (.bool (decide (x=y))) w:=by
 rw [kv_cells,kv_cells,run_eql_struct,show (10000:Nat)=9996+4 from rfl,eqR_in,eqR_dec]
 have h:(decide (x.1.p=y.1.p)&&(decide (x.1.r=y.1.r)&&(x.1.neg == y.1.neg)))=decide (x=y):=by rw [Bool.eq_iff_iff,Qn.eq_dec,decide_eq_true_iff,K.ext_iff]
 rw [h];rfl
theorem eqI_at (i j:Iv K) (w:World):(Op.equalIn 10000 49 (iv i) (iv j)).run Tryz.prog w = .ok (decide (i=j)) w:=by
 rw [iv_cells,iv_cells,show (10000:Nat)=9995+5 from rfl,eqI_in 9995 _ _ _ _ _ _ _ _ _ _ _ _ _ _ _ _ _ _ _ _ _ _ _ _ _ _ _ _ _ _ _ _ _ _ _ _ _ _ _ _ _ _ (fun w=>eqR_in 9995 _ _ _ _ _ _ _ _ _ _ _ _ _ _ _ _ _ _ w) (fun w=>eqR_in 9995 _ _ _ _ _ _ _ _ _ _ _ _ _ _ _ _ _ _ w),eqR_dec,eqR_dec,eqI_dec]
theorem neqI_run (i j:Iv K) (w:World):(binOp .neq 49 (iv i) (iv j)).run Tryz.prog w = .ok (.bool (!decide (i=j))) w:=by
 have h:=eqI_at i j w
 unfold iv at *
 rw [run_neq_struct,h];rfl
theorem eqlI_run (i j:Iv K) (w:World):(binOp .eql 49 (iv i) (iv j)).run Tryz.prog w = .ok (.bool (decide (i=j))) w:=by
 have h:=eqI_at i j w
 unfold iv at *
 rw [run_eql_struct,h];rfl
end Go.Proofs.YtejegogbhpmgfaaGreatDoor
namespace Go.Proofs.YtejegogbhpmgfaaGreatDoor
open Go.RowKit
open Classical
theorem quiet_bin {C:World→Prop} {o:Oper} {a:Act} {K:Act→Prop} (op:BinOp) (t:TypeId) (x y:Operand) (s:TypeId) (cx cy:Array Value) (v:Value) (ho:o.op = .binOp op t x y s) (hx:a.eval x = .agg cx) (hy:a.eval y = .agg cy) (hg:Tryz.prog.eqGuardType Tryz.prog.depth t=false)
  (h:∀ w,(binOp op t (.agg cx) (.agg cy)).run Tryz.prog w = .ok v w) (hk:K (a.put o.dst v)):o.quiet Tryz.prog a C K :=
 ⟨v,fun w hw=>by
  unfold Oper.quietAt execOp
  simp only [ho,hx,hy,Sem.run_bind,run_eqGuard_agg (hm:=hg),Result.andThen_ok,h w,Sem.run_pure]
  exact ⟨rfl,rfl⟩,hk⟩
def MI (w0 w:World) (L:List (Value × List (Iv K))):Prop:=Keep [] w0 w∧∀ p∈L,IvR w p.1 p.2
theorem MI.start (w:World):MI w w []:=⟨Keep.refl _ _,by simp⟩
theorem MI.add {w0 w w':World} {L:List (Value × List (Iv K))} (h:MI w0 w L) {v:Value} {l:List (Iv K)} (hk:Keep [] w w') (hv:IvR w' v l):MI w0 w' ((v,l) :: L) :=
 ⟨h.1.trans0 hk,fun p hp=>by
  rcases List.mem_cons.1 hp with rfl|hp
  ·exact hv
  ·exact (h.2 p hp).later hk⟩
theorem MI.move {w0 w w':World} {L:List (Value × List (Iv K))} (h:MI w0 w L) (hk:Keep [] w w'):MI w0 w' L:=⟨h.1.trans0 hk,fun p hp=>(h.2 p hp).later hk⟩
theorem eqT_run (i:Iv K) (w:World):(binOp .eql 49 (iv i) (iv i)).run Tryz.prog w = .ok (.bool true) w:=by rw [eqlI_run];simp
theorem one_has (i:Iv K) (x:Bd K):hasL [i] x=i.has x:=by rw [hasL_cons,hasL_nil,Bool.or_false]
end Go.Proofs.YtejegogbhpmgfaaGreatDoor
namespace Go.Proofs.YtejegogbhpmgfaaGreatDoor
open Go.RowKit
open Go.ChangeShapes Go.WideShapes Go.ChangeAt
theorem mapM_get {α β:Type} (f:α→Option β):∀ (l:List α) (cs:List β),l.mapM f=some cs→cs.length=l.length∧∀ (i:Nat) (x:α),l[i]? = some x→f x=cs[i]?
 | [],cs,h=>by
  simp at h;subst h;exact ⟨rfl,fun i x hx=>by simp at hx⟩
 | x :: l,cs,h=>by
  rw [List.mapM_cons] at h
  simp only [Option.bind_eq_bind,Option.pure_def,Option.bind_eq_some_iff] at h
  obtain⟨y,hy,ys,hys,h⟩:=h
  simp at h;subst h
  obtain⟨h1,h2⟩:=mapM_get f l ys hys
  refine ⟨by simp [h1],fun i z hz=>?_⟩
  cases i with
  | zero=>simp at hz;subst hz;simpa using hy
  | succ i=>simp at hz ⊢;exact h2 i z hz
theorem cells?_get {w:World} {base n:Nat} {a:Addr} {cs:List Value} (h:w.cells? base a n=some cs):cs.length=n∧∀ i,i<n→w.cell? (a.add i)=cs[i]?:=by
 unfold World.cells? at h
 split at h
 ·obtain⟨h1,h2⟩:=mapM_get _ _ _ h
  exact ⟨by simpa using h1,fun i hi=>h2 i i (by rw [List.getElem?_range hi])⟩
 ·cases h
theorem plain_of_cell {w:World} {a:Addr} {v:Value} (h:w.cell? a=some v):∃ b off,a=⟨b,off,none⟩:=by
 obtain⟨b,off,sp⟩:=a
 cases sp with
 | none=>exact ⟨b,off,rfl⟩
 | some x=>simp [World.cell?] at h;split at h<;>simp at h
theorem cells_u8:Tryz.prog.cellsOf 5=1:=by kernel_rfl
theorem cells_bool:Tryz.prog.cellsOf 4=1:=by kernel_rfl
theorem cells_Ins:Tryz.prog.cellsOf 26=5:=by kernel_rfl
theorem cells_Span:Tryz.prog.cellsOf 129=12:=by kernel_rfl
def InsA.cs (a:InsA):List Value:=[.int .u8 a.P,.int .u8 a.D,.int .u8 a.R,.int .u8 a.E,.bool a.neg]
section
variable {H:Type} {enc:TypeId × Value→H} {w:World} {base:Nat} {held:Bool} {fuel:Nat}
theorem ins_trod {cs:List Value} {x:DataW H × List MemPlace} (h:DataW.trod enc Tryz.prog w base (fun _=>true) held fuel 26 cs=some x):∃ a:InsA,cs=a.cs:=by
 obtain⟨xs,n,_,rfl,hl,hlen,hf⟩:=DataW.trod_struct Tryz.underlying26 h
 rw [cells_Ins] at hl
 match cs,hl with
 | [c0,c1,c2,c3,c4],_ =>
  match xs,hlen with
  | [x0,x1,x2,x3,x4],_ =>
   have h0:DataW.trod enc Tryz.prog w base (fun _=>true) held n 5 (([c0,c1,c2,c3,c4].drop 0).take (Tryz.prog.cellsOf 5))=some x0:=hf 0 _ rfl
   have h1:DataW.trod enc Tryz.prog w base (fun _=>true) held n 5 (([c0,c1,c2,c3,c4].drop 1).take (Tryz.prog.cellsOf 5))=some x1:=hf 1 _ rfl
   have h2:DataW.trod enc Tryz.prog w base (fun _=>true) held n 5 (([c0,c1,c2,c3,c4].drop 2).take (Tryz.prog.cellsOf 5))=some x2:=hf 2 _ rfl
   have h3:DataW.trod enc Tryz.prog w base (fun _=>true) held n 5 (([c0,c1,c2,c3,c4].drop 3).take (Tryz.prog.cellsOf 5))=some x3:=hf 3 _ rfl
   have h4:DataW.trod enc Tryz.prog w base (fun _=>true) held n 4 (([c0,c1,c2,c3,c4].drop 4).take (Tryz.prog.cellsOf 4))=some x4:=hf 4 _ rfl
   rw [cells_u8] at h0 h1 h2 h3
   rw [cells_bool] at h4
   obtain⟨n0,e0,_,w0⟩:=DataW.trod_int Tryz.underlying5 h0
   obtain⟨n1,e1,_,w1⟩:=DataW.trod_int Tryz.underlying5 h1
   obtain⟨n2,e2,_,w2⟩:=DataW.trod_int Tryz.underlying5 h2
   obtain⟨n3,e3,_,w3⟩:=DataW.trod_int Tryz.underlying5 h3
   obtain⟨n4,e4,_⟩:=DataW.trod_bool Tryz.underlying4 h4
   simp at e0 e1 e2 e3 e4
   subst e0 e1 e2 e3 e4
   have b0:=bounds_u8 w0
   have b1:=bounds_u8 w1
   have b2:=bounds_u8 w2
   have b3:=bounds_u8 w3
   refine ⟨⟨n0.toNat,n1.toNat,n2.toNat,n3.toNat,n4,by omega,by omega,by omega,by omega⟩,?_⟩
   simp [InsA.cs,Int.toNat_of_nonneg b0.1,Int.toNat_of_nonneg b1.1,Int.toNat_of_nonneg b2.1,Int.toNat_of_nonneg b3.1]
theorem span_trod {cs:List Value} {x:DataW H × List MemPlace} (h:DataW.trod enc Tryz.prog w base (fun _=>true) held fuel 129 cs=some x):∃ s:SpanA,cs=spcells s:=by
 obtain⟨xs,n,_,rfl,hl,hlen,hf⟩:=DataW.trod_struct Tryz.underlying129 h
 rw [cells_Span] at hl
 match cs,hl with
 | [c0,c1,c2,c3,c4,c5,c6,c7,c8,c9,c10,c11],_ =>
  match xs,hlen with
  | [x0,x1,x2,x3],_ =>
   have h0:DataW.trod enc Tryz.prog w base (fun _=>true) held n 26 (([c0,c1,c2,c3,c4,c5,c6,c7,c8,c9,c10,c11].drop 0).take (Tryz.prog.cellsOf 26))=some x0:=hf 0 _ rfl
   have h1:DataW.trod enc Tryz.prog w base (fun _=>true) held n 26 (([c0,c1,c2,c3,c4,c5,c6,c7,c8,c9,c10,c11].drop 5).take (Tryz.prog.cellsOf 26))=some x1:=hf 1 _ rfl
   have h2:DataW.trod enc Tryz.prog w base (fun _=>true) held n 4 (([c0,c1,c2,c3,c4,c5,c6,c7,c8,c9,c10,c11].drop 10).take (Tryz.prog.cellsOf 4))=some x2:=hf 2 _ rfl
   have h3:DataW.trod enc Tryz.prog w base (fun _=>true) held n 4 (([c0,c1,c2,c3,c4,c5,c6,c7,c8,c9,c10,c11].drop 11).take (Tryz.prog.cellsOf 4))=some x3:=hf 3 _ rfl
   rw [cells_Ins] at h0 h1
   rw [cells_bool] at h2 h3
   obtain⟨a,e0⟩:=ins_trod h0
   obtain⟨b,e1⟩:=ins_trod h1
   obtain⟨o,e2,_⟩:=DataW.trod_bool Tryz.underlying4 h2
   obtain⟨c,e3,_⟩:=DataW.trod_bool Tryz.underlying4 h3
   refine ⟨⟨a,b,o,c⟩,?_⟩
   simp [InsA.cs] at e0 e1 e2 e3
   simp [spcells,e0,e1,e2,e3]
theorem spans_trod {sv:Value} {x:DataW H × List MemPlace} (h:DataW.trod enc Tryz.prog w base (fun _=>true) held fuel 22 [sv]=some x) :
  ∃ l:List SpanA,SpQ w sv l∧l.length≤maxLen:=by
 rcases Go.Deep.open_slice Tryz.underlying22 h with ⟨hcs,_⟩|⟨a,len,cap,m,n,D,Pl,hcs,_,hl,hm,hmm,_,hel⟩
 ·simp at hcs;exact ⟨[],⟨none,0,hcs,.inl rfl⟩,by simp⟩
 ·simp at hcs hmm
  by_cases h0:len=0
  ·subst h0;exact ⟨[],⟨_,cap,hcs,.inl rfl⟩,by simp⟩
  ·have hall : ∀ i, i < cap → ∃ s : SpanA, w.cells? base (a.add (i * 12)) 12 = some (spcells s) := by
    intro i hi
    obtain⟨cs',h1,h2⟩:=hel i (by omega)
    rw [cells_Span] at h1
    obtain⟨s,rfl⟩:=span_trod h2
    exact ⟨s,h1⟩
   have hfun:∃ f:Nat→SpanA,∀ i,i<cap→w.cells? base (a.add (i*12)) 12=some (spcells (f i)):=by
    obtain⟨s0,_⟩:=hall 0 (by omega)
    exact ⟨fun i=>if h:i<cap then Classical.choose (hall i h) else s0,fun i hi=>by simp only [hi,dif_pos];exact Classical.choose_spec (hall i hi)⟩
   obtain⟨f,hf⟩:=hfun
   have hc0:=(cells?_get (hf 0 (by omega))).2 0 (by omega)
   obtain⟨b,off,hp⟩:=plain_of_cell (v:=.int .u8 (f 0).a.P) (by simpa [spcells] using hc0)
   have ha:a=⟨b,off,none⟩:=by unfold Addr.add at hp;simpa using hp
   subst ha
   refine ⟨(List.range len).map f,⟨some ⟨b,off,none⟩,cap,by simpa using hcs,.inr ?_⟩,by simp;omega⟩
   refine .inr ⟨b,off,cap,by simpa using hcs,by simp;omega,?_,fun t v hv=>?_⟩
   ·exact World.block_lt_of_cell? w _ (by
     have e:=hc0
     rw [add_plain,add_plain] at e
     simp only [Nat.zero_mul,Nat.add_zero] at e
     exact e.trans (by simp [spcells];rfl))
   ·have ht : t < len * 12 := by
     have:=(List.getElem?_eq_some_iff.1 hv).1
     rw [flat_len (fun s:SpanA=>spcells s) spcells_len] at this
     simpa using this
    have hi:t / 12<len:=Nat.div_lt_of_lt_mul (by rw [Nat.mul_comm];exact ht)
    have hj:t % 12<12:=Nat.mod_lt _ (by decide)
    have h1:=flat_get (fun s:SpanA=>spcells s) spcells_len ((List.range len).map f) (t / 12) (t % 12) (by simpa using hi) hj
    rw [Nat.div_add_mod' t 12,hv] at h1
    have h2:=(cells?_get (hf (t / 12) (by omega))).2 (t % 12) hj
    rw [add_plain,add_plain,Nat.add_assoc,Nat.div_add_mod' t 12] at h2
    rw [h2,h1]
    simp
end
def SpArg (w:World) (v:Value):Prop:=∃ l:List SpanA,SpQ w v l∧l.length≤9223372036854775807
end Go.Proofs.YtejegogbhpmgfaaGreatDoor
