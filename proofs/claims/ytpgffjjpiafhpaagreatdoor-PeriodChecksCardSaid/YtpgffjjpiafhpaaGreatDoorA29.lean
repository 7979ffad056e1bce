/- Parts of a proof about this translation: Ue, Uf, Sw, Sx, Ug, Kx. -/
import Derived.Test.YtpgffjjpiafhpaaGreatDoorA26
import Derived.Test.YtpgffjjpiafhpaaGreatDoorA28
import Derived.Test.YtpgffjjpiafhpaaGreatDoorA19
import Derived.Test.YtpgffjjpiafhpaaGreatDoorA27
import Derived.Test.YtpgffjjpiafhpaaGreatDoorA23
import Derived.Test.YtpgffjjpiafhpaaGreatDoorA21
import Derived.Test.YtpgffjjpiafhpaaGreatDoorA22
import Derived.Test.YtpgffjjpiafhpaaGreatDoorA17
set_option linter.unusedVariables false
set_option linter.unusedSimpArgs false
set_option maxRecDepth 100000
set_option maxHeartbeats 8000000
namespace Go.Proofs.YtpgffjjpiafhpaaGreatDoor
open Go.RowKit
theorem sweep_comb {op:Int} {a b out:List (Iv K)} (h1:Norm out) (h2:∀ x,hasL out x=decV op (hasL a x) (hasL b x)):out=combK op a b:=(combK_eq h1 h2).symm
theorem Union_c (a b:Bool) (w:World):Calls Tryz.prog 123 #[.bool a,.bool b] w fun e w'=>e = .returned (.bool (decV 1 a b))∧Keep [] w w':=by
 cases a<;>cases b
 all_goals
  go_enter Tryz.func123,Tryz.ntmps123
  go_wp2_with fail
  go_ret
  exact ⟨rfl,Keep.refl _ _⟩
theorem Union_p (a b:List (Iv K)) (ha:∀ i∈a,i.f<i.l) (hb:∀ i∈b,i.f<i.l) (w:World) (sv tv:Value) (hr:IvR w sv a) (hs:IvR w tv b) (h9:a.length≤10000) (h8:b.length≤10000) :
  Calls Tryz.prog 73 #[sv,tv] w fun e w'=>∃ v,e = .returned v∧IvR w' v (combK 1 a b)∧Keep [] w w':=by
 have H:=jX (sweep_c (decV 1) 123 (enters_of Tryz.func123 (by kernel_rfl) rfl) (fun x y w=>Union_c x y w) (decV_zero 1) a b ha hb w sv tv hr hs h9 h8)
 obtain⟨ao,ac,rfl,_⟩:=hr.form
 obtain⟨bo,bc,rfl,_⟩:=hs.form
 clear hr hs ha hb
 go_enter Tryz.func73,Tryz.ntmps73
 go_wp2_with fail
 refine H.out.mono ?_
 rintro e w1 ⟨v,out,rfl,hv,h1,h2,hk⟩
 dsimp only
 have HV:=jX (show IvR w1 v (combK 1 a b) by rw [← sweep_comb h1 h2];exact hv)
 have HK:=jX hk
 obtain⟨vo,vc,rfl,_⟩:=hv.form
 clear hv h1 h2 hk
 go_wp2_with fail
 go_ret
 exact ⟨_,rfl,HV.out,HK.out⟩
theorem Minus_c (a b:Bool) (w:World):Calls Tryz.prog 124 #[.bool a,.bool b] w fun e w'=>e = .returned (.bool (decV 3 a b))∧Keep [] w w':=by
 cases a<;>cases b
 all_goals
  go_enter Tryz.func124,Tryz.ntmps124
  go_wp2_with fail
  go_ret
  exact ⟨rfl,Keep.refl _ _⟩
theorem Minus_p (a b:List (Iv K)) (ha:∀ i∈a,i.f<i.l) (hb:∀ i∈b,i.f<i.l) (w:World) (sv tv:Value) (hr:IvR w sv a) (hs:IvR w tv b) (h9:a.length≤10000) (h8:b.length≤10000) :
  Calls Tryz.prog 74 #[sv,tv] w fun e w'=>∃ v,e = .returned v∧IvR w' v (combK 3 a b)∧Keep [] w w':=by
 have H:=jX (sweep_c (decV 3) 124 (enters_of Tryz.func124 (by kernel_rfl) rfl) (fun x y w=>Minus_c x y w) (decV_zero 3) a b ha hb w sv tv hr hs h9 h8)
 obtain⟨ao,ac,rfl,_⟩:=hr.form
 obtain⟨bo,bc,rfl,_⟩:=hs.form
 clear hr hs ha hb
 go_enter Tryz.func74,Tryz.ntmps74
 go_wp2_with fail
 refine H.out.mono ?_
 rintro e w1 ⟨v,out,rfl,hv,h1,h2,hk⟩
 dsimp only
 have HV:=jX (show IvR w1 v (combK 3 a b) by rw [← sweep_comb h1 h2];exact hv)
 have HK:=jX hk
 obtain⟨vo,vc,rfl,_⟩:=hv.form
 clear hv h1 h2 hk
 go_wp2_with fail
 go_ret
 exact ⟨_,rfl,HV.out,HK.out⟩
def kQ (q:Rat) (h:FitQ 100000 q):K:=⟨⟨q,0,false⟩,⟨by show (0:Rat)≤0;grind,fun _=>rfl,fun h=>absurd rfl h⟩,h,fit0.mono (by decide)⟩
theorem cmp_frac (a b:Rat):cmpQ ⟨a,0,false⟩ ⟨b,0,false⟩=sgn (a-b):=by
 have h1:sg1 (a-b) (Qn.u ⟨a,0,false⟩) 0=sgn (a-b):=by
  unfold sg1
  rw [sgn_zero,Int.mul_zero,if_pos (.inl rfl)]
 unfold cmpQ
 dsimp only
 rw [sgn_zero,Int.mul_zero,if_pos (.inl rfl),h1]
theorem kQ_lt {a b:Rat} {ha:FitQ 100000 a} {hb:FitQ 100000 b}:kQ a ha<kQ b hb↔a<b:=by
 rw [← K.cmp_neg]
 show cmpQ ⟨a,0,false⟩ ⟨b,0,false⟩ = -1↔_
 rw [cmp_frac]
 rcases sgn_cases (a-b) with ⟨h,h2⟩|⟨h,h2⟩|⟨h,h2⟩<;>rw [h2]<;>constructor<;>intro h3<;>first|grind|(exact absurd h3 (by decide))
theorem fit_nat1 (n:Nat) (h:n<256):FitQ 1 (n:Rat):=by
 refine ⟨?_,?_⟩
 ·rw [Fit_iff]
  have e:(n:Rat).num=(n:Int):=rfl
  rw [e]
  simpa using h
 rw [Fit_iff]
 have e:(n:Rat).den=1:=rfl
 rw [e]
 decide
theorem fit_nat (n:Nat) (h:n<256):FitQ 100000 (n:Rat):=(fit_nat1 n h).mono (by decide)
def kN (n:Nat) (h:n<256):K:=kQ n (fit_nat n h)
theorem kN_lt {m n:Nat} {hm:m<256} {hn:n<256}:kN m hm<kN n hn↔m<n:=by
 unfold kN
 rw [kQ_lt]
 exact_mod_cast Iff.rfl
theorem divInt_nat (n:Nat):Rat.divInt (n:Int) 1=(n:Rat):=by
 exact Rat.num_divInt_den (n:Rat)
theorem real_built (n:Bool) (s d:ByteArray):Tryz.prog.built 30 [(0,.agg #[.bool n,.string s,.bool false,.string d])]=some #[.bool n,.string s,.bool false,.string d,.bool false,.string ⟨#[]⟩,.bool false,.string ⟨#[]⟩,.bool false]:=by kernel_rfl
theorem kQ_C (q:Rat) (h:FitQ 100000 q):kC (kQ q h) = #[.bool (sgB q.num),.string (mgS q.num),.bool false,.string (dnS q.den),.bool false,.string ⟨#[]⟩,.bool false,.string ⟨#[]⟩,.bool false]:=by
 have h1:sgB (0:Rat).num=false:=by decide
 have h2:mgS (0:Rat).num=⟨#[]⟩:=mg_empty.2 rfl
 have h3:dnS (0:Rat).den=⟨#[]⟩:=by unfold dnS;rfl
 unfold kC kQ kcells
 dsimp only
 rw [h1,h2,h3]
theorem real_built' (q:Rat) (h:FitQ 100000 q):Tryz.prog.built 30 [(0,rv q)]=some (kC (kQ q h)):=by
 rw [kQ_C]
 exact real_built _ _ _
theorem lwhole_c (n:Nat) (hn:n<256) (w:World):Calls Tryz.prog 72 #[.int .i64 (n:Int)] w fun e w'=>e = .returned (kv (kN n hn))∧Keep [] w w':=by
 have H:=jX (fun w=>rof_c (n:Int) 1 (by decide) (by omega) (by omega) (by decide) (by decide) w)
 rw [divInt_nat] at H
 have HB:=jX (real_built' (n:Rat) (fit_nat n hn))
 have HS:Hid ((kC (kN n hn)).size=9):=rfl
 have HO:=jX (all_oneCell_toArray (kcells_one (kN n hn).1))
 have HL:=jX (fun w g (h:w.heap[g]? = some (.cells (kC (kN n hn)) 30))=>load_real w g 0 _ (kAt_box h))
 rw [show qv (kN n hn).1=kv (kN n hn) from rfl] at HL
 rw [show kQ (n:Rat) (fit_nat n hn)=kN n hn from rfl] at HB
 unfold kv at *
 rw [show (kcells (kN n hn).1).toArray=kC (kN n hn) from rfl] at HO
 unfold rv at *
 generalize sgB ((n:Rat)).num=a1 at *
 generalize mgS ((n:Rat)).num=a2 at *
 generalize dnS ((n:Rat)).den=a3 at *
 generalize kC (kN n hn)=C at *
 go_enter Tryz.func72,Tryz.ntmps72
 go_upto_region 1 with (fail)
 obtain⟨W,ga,hW,ega,Bga,hga,hgW,HkW⟩:=al1h w (.cells #[.bool false,.string ⟨#[]⟩,.bool false,.string ⟨#[]⟩,.bool false,.string ⟨#[]⟩,.bool false,.string ⟨#[]⟩,.bool false] 30)
 rw [← hW]
 try rw [ega]
 clear hW ega
 refine wp_region_lit ?_
 refine' wpList_R (v:=_) (by rfl) (?ha) (fun K hK=>?ka)
 case ha=>(go_simp;try rfl)
 go_simp
 refine hK _ _ ?_
 clear hK K
 refine wpList_plain (by rfl) (fun K hK=>?_)
 refine wp_enter 91 #[.int .i64 (n:Int),.int .i64 1] (by go_simp) ?_
 refine (H.out _).mono ?_
 rintro e w5 ⟨rfl,hk5⟩
 refine ⟨_,rfl,?_⟩
 go_simp
 refine hK _ _ ?_
 clear hK K
 replace Bga:=jH hk5 Bga
 replace HkW:=jX (HkW.out.trans0 hk5)
 clear hk5
 refine wpList_R (v:=.agg C) (by rfl) (exec_build _ #[(0,.tmp 4)] #[(0,.agg #[.bool a1,.string a2,.bool false,.string a3])] _ rfl (by simp only [List.map_toArray,List.map_cons,List.map_nil];rfl) HB.out) (fun K hK=>?_)
 go_simp
 refine hK _ _ ?_
 clear hK K
 refine wpList_rowK (by rfl) _ _ _ rfl ga C rfl rfl _ _ Bga.out (by rw [HS.out];exact k_size) (by rw [HS.out];rfl) HO.out (fun K hK=>?_)
 obtain⟨W4,e4,b4,k4⟩:=setRow_at (cs:=C) Bga.out
 rw [e4]
 go_simp
 refine hK _ _ ?_
 clear hK K
 have Hb4:=jX b4
 have HkZ:=jX (HkW.out.trans k4 (by simp;omega))
 clear b4 k4 e4
 go_wp2_with fail
 refine bodyPost_ret (v:=.agg C) ?_ rfl ⟨rfl,HkZ.out⟩
 rw [results_cell1 rfl]
 exact HL.out _ _ Hb4.out
section
theorem eqR_dec (x y:Qn):((((sgB x.p.num == sgB y.p.num)&&decide (mgS x.p.num=mgS y.p.num))&&((false == false)&&decide (dnS x.p.den=dnS y.p.den)))&&((((sgB x.r.num == sgB y.r.num)&&decide (mgS x.r.num=mgS y.r.num))&&((false == false)&&decide (dnS x.r.den=dnS y.r.den)))&&(x.neg == y.neg)))=(decide (x.p=y.p)&&(decide (x.r=y.r)&&(x.neg == y.neg))):=by
 rw [eqQ_dec,eqQ_dec]
theorem Qn.eq_dec (x y:Qn):(decide (x.p=y.p)&&(decide (x.r=y.r)&&(x.neg == y.neg)))=true↔x=y:=by
 obtain⟨p,r,n⟩:=x
 obtain⟨p',r',n'⟩:=y
 simp
theorem K.ext_iff {x y:K}:x=y↔x.1=y.1:=Subtype.ext_iff
open Classical in
theorem eqI_dec (i j:Iv K):((decide (i.f.pt.1.p=j.f.pt.1.p)&&(decide (i.f.pt.1.r=j.f.pt.1.r)&&(i.f.pt.1.neg == j.f.pt.1.neg)))&&((decide (i.l.pt.1.p=j.l.pt.1.p)&&(decide (i.l.pt.1.r=j.l.pt.1.r)&&(i.l.pt.1.neg == j.l.pt.1.neg)))&&((i.f.beh == j.f.beh)&&((!i.l.beh) == (!j.l.beh)))))=decide (i=j):=by
 rw [Bool.eq_iff_iff,decide_eq_true_iff,Bool.and_eq_true,Qn.eq_dec,Bool.and_eq_true,Qn.eq_dec,← K.ext_iff,← K.ext_iff]
 obtain⟨⟨a,b⟩,⟨c,d⟩⟩:=i
 obtain⟨⟨a',b'⟩,⟨c',d'⟩⟩:=j
 simp
 constructor
 ·rintro ⟨rfl,rfl,rfl,h⟩
  exact ⟨⟨rfl,rfl⟩,rfl,h⟩
 rintro ⟨⟨rfl,rfl⟩,rfl,h⟩
 exact ⟨rfl,rfl,rfl,h⟩
open Classical
theorem eqI_in (d:Nat) (x0 x1 x2 x3 x4 x5 x6 x7 x8 y0 y1 y2 y3 y4 y5 y6 y7 y8 u0 u1 u2 u3 u4 u5 u6 u7 u8 v0 v1 v2 v3 v4 v5 v6 v7 v8:Value) (o1 c1 o2 c2 k1 k2:Bool)
  (e1:∀ w,(Op.equalIn (d+4) 30 (.agg #[x0,x1,x2,x3,x4,x5,x6,x7,x8]) (.agg #[u0,u1,u2,u3,u4,u5,u6,u7,u8])).run Tryz.prog w = .ok k1 w) (e2:∀ w,(Op.equalIn (d+4) 30 (.agg #[y0,y1,y2,y3,y4,y5,y6,y7,y8]) (.agg #[v0,v1,v2,v3,v4,v5,v6,v7,v8])).run Tryz.prog w = .ok k2 w) (w:World) :
  (Op.equalIn (d+5) 32 (.agg #[x0,x1,x2,x3,x4,x5,x6,x7,x8,y0,y1,y2,y3,y4,y5,y6,y7,y8,.bool o1,.bool c1]) (.agg #[u0,u1,u2,u3,u4,u5,u6,u7,u8,v0,v1,v2,v3,v4,v5,v6,v7,v8,.bool o2,.bool c2])).run Tryz.prog w = .ok (k1&&(k2&&((o1 == o2)&&(c1 == c2)))) w:=by
 have u3:=Tryz.underlying30
 have a3:=Tryz.isAgg30
 have z3:=Tryz.sizeOf30
 have u4:=Tryz.underlying4
 have aa4:=Tryz.isAgg4
 have z4:=Tryz.sizeOf4
 have hS:Tryz.prog.underlying 32=some (.struct (Tryz.prog.fieldsOf 32)):=by kernel_rfl
 have hp:Tryz.prog.stoodInHeld 32=false:=by kernel_rfl
 rw [run_equalIn_agg w (d+4) 32 _ _ hS hp]
 simp only [Program.fieldsOf,Tryz.underlying32]
 go_simp
 cases k1<;>cases k2<;>cases o1<;>cases o2<;>cases c1<;>cases c2<;>simp
theorem eqI_g:Tryz.prog.eqGuardType Tryz.prog.depth 32=false:=by kernel_rfl
theorem eqI_at (i j:Iv K) (w:World):(Op.equalIn 10000 32 (iv i) (iv j)).run Tryz.prog w = .ok (decide (i=j)) w:=by
 rw [iv_cells,iv_cells,show (10000:Nat)=9995+5 from rfl,eqI_in 9995 _ _ _ _ _ _ _ _ _ _ _ _ _ _ _ _ _ _ _ _ _ _ _ _ _ _ _ _ _ _ _ _ _ _ _ _ _ _ _ _ _ _ (fun w=>eqR_in 9995 _ _ _ _ _ _ _ _ _ _ _ _ _ _ _ _ _ _ w) (fun w=>eqR_in 9995 _ _ _ _ _ _ _ _ _ _ _ _ _ _ _ _ _ _ w),eqR_dec,eqR_dec,eqI_dec]
theorem eqlI_run (i j:Iv K) (w:World):(binOp .eql 32 (iv i) (iv j)).run Tryz.prog w = .ok (.bool (decide (i=j))) w:=by
 have h:=eqI_at i j w
 unfold iv at *
 rw [run_eql_struct,h];rfl
end
section
open Classical
theorem quiet_bin {C:World→Prop} {o:Oper} {a:Act} {K:Act→Prop} (op:BinOp) (t:TypeId) (x y:Operand) (s:TypeId) (cx cy:Array Value) (v:Value) (ho:o.op = .binOp op t x y s) (hx:a.eval x = .agg cx) (hy:a.eval y = .agg cy) (hg:Tryz.prog.eqGuardType Tryz.prog.depth t=false)
  (h:∀ w,(binOp op t (.agg cx) (.agg cy)).run Tryz.prog w = .ok v w) (hk:K (a.put o.dst v)):o.quiet Tryz.prog a C K :=
 ⟨v,fun w hw=>by
  unfold Oper.quietAt execOp
  simp only [ho,hx,hy,Sem.run_bind,run_eqGuard_agg (hm:=hg),Result.andThen_ok,h w,Sem.run_pure]
  exact ⟨rfl,rfl⟩,hk⟩
end
section
open Classical
structure RawR where
 a1:Bool
 a2:ByteArray
 a3:Bool
 a4:ByteArray
 b1:Bool
 b2:ByteArray
 b3:Bool
 b4:ByteArray
 n:Bool
def RawR.cells (x:RawR):List Value:=[.bool x.a1,.string x.a2,.bool x.a3,.string x.a4,.bool x.b1,.string x.b2,.bool x.b3,.string x.b4,.bool x.n]
def RawR.v (x:RawR):Value:=.agg #[.bool x.a1,.string x.a2,.bool x.a3,.string x.a4,.bool x.b1,.string x.b2,.bool x.b3,.string x.b4,.bool x.n]
def RawR.of (x:Qn):RawR:=⟨sgB x.p.num,mgS x.p.num,false,dnS x.p.den,sgB x.r.num,mgS x.r.num,false,dnS x.r.den,x.neg⟩
def RawR.isK (x:RawR):Prop:=∃ q:Qn,q.Ok∧x=RawR.of q
def RawR.sz (x:RawR) (k:Nat):Prop:=x.a2.size≤k∧x.a4.size≤k∧x.b2.size≤k∧x.b4.size≤k
theorem RawR.of_inj {x y:Qn} (h:RawR.of x=RawR.of y):x=y:=by
 unfold RawR.of at h
 injection h with h1 h2 h3 h4 h5 h6 h7 h8 h9
 have hp:x.p=y.p:=by
  have:=(eqQ_dec x.p y.p).symm
  rw [h1,h2,h4] at this
  simpa using this
 have hr:x.r=y.r:=by
  have:=(eqQ_dec x.r y.r).symm
  rw [h5,h6,h8] at this
  simpa using this
 cases x;cases y;simp_all
theorem isreal_c (x:RawR) (hs:x.sz 1000000) (w:World):Calls Tryz.prog 26 #[x.v] w fun e w'=>e = .returned (.bool (decide x.isK))∧Keep [] w w':=by
 obtain⟨a1,a2,a3,a4,b1,b2,b3,b4,n⟩:=x
 obtain⟨hs1,hs2,hs3,hs4⟩:=hs
 dsimp only at hs1 hs2 hs3 hs4
 unfold RawR.v
 dsimp only
 have H1:=jX (rcheck_c a1 a2 a3 a4 (by omega) (by omega))
 have H2:=jX (rcheck_c b1 b2 b3 b4 (by omega) (by omega))
 have HX:Hid ((RawR.mk a1 a2 a3 a4 b1 b2 b3 b4 n).isK→chkQ a1 a2 a3 a4=true∧chkQ b1 b2 b3 b4=true):=by
  rintro ⟨q,hq,he⟩
  unfold RawR.of at he
  injection he with h1 h2 h3 h4 h5 h6 h7 h8 h9
  exact ⟨chkQ_iff.2 ⟨q.p,h1,h2,h3,h4⟩,chkQ_iff.2 ⟨q.r,h5,h6,h7,h8⟩⟩
 clear hs1 hs2
 cases hca:chkQ a1 a2 a3 a4 with
 | false =>
  rw [hca] at H1
  have hres:decide (RawR.mk a1 a2 a3 a4 b1 b2 b3 b4 n).isK=false:=decide_eq_false (fun h=>by have:=(HX.out h).1;rw [hca] at this;cases this)
  rw [hres]
  clear hres hca HX hs3 hs4 H2
  go_enter Tryz.func26,Tryz.ntmps26
  go_wp2_with fail
  obtain⟨W,ga,hW,ega,Bga,hga,hgW,HkW⟩:=al1h w (.cells #[.bool a1,.string a2,.bool a3,.string a4,.bool b1,.string b2,.bool b3,.string b4,.bool n] 30)
  rw [← hW]
  try rw [ega]
  clear hW ega
  obtain⟨pga,fga,lga⟩:=jQ Bga
  go_wp2_with fail
  refine (H1.out _).mono ?_
  rintro e w1 ⟨rfl,hk_w1⟩
  dsimp only
  clear pga fga lga
  replace Bga:=jH hk_w1 Bga
  replace HkW:=jX (HkW.out.trans0 hk_w1)
  clear hk_w1
  obtain⟨pga,fga,lga⟩:=jQ Bga
  go_wp2_with fail
  go_ret
  exact ⟨rfl,by repeat (first|(with_reducible exact HkW.out)|(refine Keep.setPast ?_ _ _ _ (by omega))|(refine Keep.allocPast ?_ _)|(refine Keep.drewPast ?_))⟩
 | true =>
  rw [hca] at H1
  cases hcb:chkQ b1 b2 b3 b4 with
  | false =>
   rw [hcb] at H2
   have hres:decide (RawR.mk a1 a2 a3 a4 b1 b2 b3 b4 n).isK=false:=decide_eq_false (fun h=>by have:=(HX.out h).2;rw [hcb] at this;cases this)
   rw [hres]
   clear hres hca hcb HX hs3 hs4
   go_enter Tryz.func26,Tryz.ntmps26
   go_wp2_with fail
   obtain⟨W,ga,hW,ega,Bga,hga,hgW,HkW⟩:=al1h w (.cells #[.bool a1,.string a2,.bool a3,.string a4,.bool b1,.string b2,.bool b3,.string b4,.bool n] 30)
   rw [← hW]
   try rw [ega]
   clear hW ega
   obtain⟨pga,fga,lga⟩:=jQ Bga
   go_wp2_with fail
   refine (H1.out _).mono ?_
   rintro e w1 ⟨rfl,hk_w1⟩
   dsimp only
   clear pga fga lga
   replace Bga:=jH hk_w1 Bga
   replace HkW:=jX (HkW.out.trans0 hk_w1)
   clear hk_w1
   obtain⟨pga,fga,lga⟩:=jQ Bga
   go_wp2_with fail
   refine (H2.out _).mono ?_
   rintro e w2 ⟨rfl,hk_w2⟩
   dsimp only
   clear pga fga lga
   replace Bga:=jH hk_w2 Bga
   replace HkW:=jX (HkW.out.trans0 hk_w2)
   clear hk_w2
   obtain⟨pga,fga,lga⟩:=jQ Bga
   go_wp2_with fail
   go_ret
   exact ⟨rfl,by repeat (first|(with_reducible exact HkW.out)|(refine Keep.setPast ?_ _ _ _ (by omega))|(refine Keep.allocPast ?_ _)|(refine Keep.drewPast ?_))⟩
  | true =>
   rw [hcb] at H2
   obtain⟨p,e1,e2,e3,e4⟩:=chkQ_iff.1 hca
   obtain⟨r,e5,e6,e7,e8⟩:=chkQ_iff.1 hcb
   have hfit:FitQ 10000000 r:=by
    refine ⟨?_,?_⟩
    ·have:=hs3;rw [e6] at this;exact Nat.le_trans this (by decide)
    have:=hs4;rw [e8] at this
    unfold dnS at this
    unfold Fit mgS
    rw [Int.natAbs_natCast]
    split at this
    ·rename_i h1;rw [h1];exact Nat.le_trans ((magS_size 1 1).2 (by decide)) (by decide)
    exact Nat.le_trans this (by decide)
   have HR:=jX (rroot_c r hfit)
   have HS:=jX (rsign_c r)
   rw [zsgn_sgn] at HS
   clear hs3 hs4 hca hcb hfit HX
   subst e1 e2 e3 e4 e5 e6 e7 e8
   have HK1:Hid (∀ q:Qn,q.Ok→q.p=p→q.r=r→q.neg=n→(RawR.mk (sgB p.num) (mgS p.num) false (dnS p.den) (sgB r.num) (mgS r.num) false (dnS r.den) n).isK):=fun q hq h1 h2 h3=>⟨q,hq,by unfold RawR.of;rw [h1,h2,h3]⟩
   have HK2:Hid ((RawR.mk (sgB p.num) (mgS p.num) false (dnS p.den) (sgB r.num) (mgS r.num) false (dnS r.den) n).isK→(⟨p,r,n⟩:Qn).Ok):=by
    rintro ⟨q,hq,he⟩
    have:=RawR.of_inj (x:=⟨p,r,n⟩) (y:=q) he
    rw [this];exact hq
   generalize (RawR.mk (sgB p.num) (mgS p.num) false (dnS p.den) (sgB r.num) (mgS r.num) false (dnS r.den) n).isK=KK at *
   unfold rv at HR HS
   have hsg:=sgn_cases r
   unfold Root2Post rv at HR
   rcases hsg with ⟨hr0,hsg⟩|⟨hr0,hsg⟩|⟨hr0,hsg⟩
   ·have hres:decide KK=false:=decide_eq_false (fun h=>by have:=(HK2.out h).nn;dsimp only at this;grind)
    rw [hres]
    rw [hsg] at HS
    clear hres HK1 HK2 hsg HR hr0
    generalize sgB (p).num=a1 at *
    generalize mgS (p).num=a2 at *
    generalize dnS (p).den=a4 at *
    generalize sgB (r).num=b1 at *
    generalize mgS (r).num=b2 at *
    generalize dnS (r).den=b4 at *
    go_enter Tryz.func26,Tryz.ntmps26
    go_wp2_with fail
    obtain⟨W,ga,hW,ega,Bga,hga,hgW,HkW⟩:=al1h w (.cells #[.bool a1,.string a2,.bool false,.string a4,.bool b1,.string b2,.bool false,.string b4,.bool n] 30)
    rw [← hW]
    try rw [ega]
    clear hW ega
    obtain⟨pga,fga,lga⟩:=jQ Bga
    go_wp2_with fail
    refine (H1.out _).mono ?_
    rintro e w1 ⟨rfl,hk_w1⟩
    dsimp only
    clear pga fga lga
    replace Bga:=jH hk_w1 Bga
    replace HkW:=jX (HkW.out.trans0 hk_w1)
    clear hk_w1
    obtain⟨pga,fga,lga⟩:=jQ Bga
    go_wp2_with fail
    refine (H2.out _).mono ?_
    rintro e w2 ⟨rfl,hk_w2⟩
    dsimp only
    clear pga fga lga
    replace Bga:=jH hk_w2 Bga
    replace HkW:=jX (HkW.out.trans0 hk_w2)
    clear hk_w2
    obtain⟨pga,fga,lga⟩:=jQ Bga
    go_wp2_with fail
    refine (HS.out _).mono ?_
    rintro e w3 ⟨rfl,hk_w3⟩
    dsimp only
    clear pga fga lga
    replace Bga:=jH hk_w3 Bga
    replace HkW:=jX (HkW.out.trans0 hk_w3)
    clear hk_w3
    obtain⟨pga,fga,lga⟩:=jQ Bga
    go_wp2_with fail
    go_ret
    exact ⟨rfl,by repeat (first|(with_reducible exact HkW.out)|(refine Keep.setPast ?_ _ _ _ (by omega))|(refine Keep.allocPast ?_ _)|(refine Keep.drewPast ?_))⟩
   ·have hres : decide KK = !n := by
     cases n with
     | true=>exact decide_eq_false (fun h=>by have:=(HK2.out h).zero hr0;cases this)
     | false=>exact decide_eq_true (HK1.out ⟨p,r,false⟩ ⟨by show (0:Rat)≤r;rw [hr0];grind,fun _=>rfl,fun h=>absurd hr0 h⟩ rfl rfl rfl)
    rw [hres]
    rw [hsg] at HS
    clear hres HK1 HK2 hsg HR hr0
    generalize sgB (p).num=a1 at *
    generalize mgS (p).num=a2 at *
    generalize dnS (p).den=a4 at *
    generalize sgB (r).num=b1 at *
    generalize mgS (r).num=b2 at *
    generalize dnS (r).den=b4 at *
    go_enter Tryz.func26,Tryz.ntmps26
    go_wp2_with fail
    obtain⟨W,ga,hW,ega,Bga,hga,hgW,HkW⟩:=al1h w (.cells #[.bool a1,.string a2,.bool false,.string a4,.bool b1,.string b2,.bool false,.string b4,.bool n] 30)
    rw [← hW]
    try rw [ega]
    clear hW ega
    obtain⟨pga,fga,lga⟩:=jQ Bga
    go_wp2_with fail
    refine (H1.out _).mono ?_
    rintro e w1 ⟨rfl,hk_w1⟩
    dsimp only
    clear pga fga lga
    replace Bga:=jH hk_w1 Bga
    replace HkW:=jX (HkW.out.trans0 hk_w1)
    clear hk_w1
    obtain⟨pga,fga,lga⟩:=jQ Bga
    go_wp2_with fail
    refine (H2.out _).mono ?_
    rintro e w2 ⟨rfl,hk_w2⟩
    dsimp only
    clear pga fga lga
    replace Bga:=jH hk_w2 Bga
    replace HkW:=jX (HkW.out.trans0 hk_w2)
    clear hk_w2
    obtain⟨pga,fga,lga⟩:=jQ Bga
    go_wp2_with fail
    refine (HS.out _).mono ?_
    rintro e w3 ⟨rfl,hk_w3⟩
    dsimp only
    clear pga fga lga
    replace Bga:=jH hk_w3 Bga
    replace HkW:=jX (HkW.out.trans0 hk_w3)
    clear hk_w3
    obtain⟨pga,fga,lga⟩:=jQ Bga
    go_wp2_with fail
    refine (HS.out _).mono ?_
    rintro e w4 ⟨rfl,hk_w4⟩
    dsimp only
    clear pga fga lga
    replace Bga:=jH hk_w4 Bga
    replace HkW:=jX (HkW.out.trans0 hk_w4)
    clear hk_w4
    obtain⟨pga,fga,lga⟩:=jQ Bga
    go_wp2_with fail
    go_ret
    exact ⟨rfl,by repeat (first|(with_reducible exact HkW.out)|(refine Keep.setPast ?_ _ _ _ (by omega))|(refine Keep.allocPast ?_ _)|(refine Keep.drewPast ?_))⟩
   have HRes:Hid (∀ q ok,QRoot r q ok→decide KK = !ok):=by
    intro q ok hq
    cases ok with
    | true=>exact decide_eq_false (fun h=>(HK2.out h).sq (by dsimp only;grind) q (hq.1 rfl).2)
    | false=>exact decide_eq_true (HK1.out ⟨p,r,n⟩ ⟨by show (0:Rat)≤r;grind,fun h=>absurd h (by dsimp only;grind),fun _=>(hq.2 rfl).2⟩ rfl rfl rfl)
   generalize decide KK=res at *
   rw [hsg] at HS
   have HR:Hid (∀ w:World,Calls Tryz.prog 87 #[.agg #[.bool (sgB r.num),.string (mgS r.num),.bool false,.string (dnS r.den)]] w fun e w'=>∃ n s d ok,e = .returned (.tuple #[.agg #[.bool n,.string s,.bool false,.string d],.bool ok])∧res = !ok∧Keep [] w w'):=fun w=>(HR.out w).mono (fun e w' h=>by
    obtain⟨q,ok,he,hq,hk⟩:=h
    exact ⟨_,_,_,ok,he,HRes.out q ok hq,hk⟩)
   clear HRes HK1 HK2 hsg hr0
   generalize sgB (p).num=a1 at *
   generalize mgS (p).num=a2 at *
   generalize dnS (p).den=a4 at *
   generalize sgB (r).num=b1 at *
   generalize mgS (r).num=b2 at *
   generalize dnS (r).den=b4 at *
   go_enter Tryz.func26,Tryz.ntmps26
   go_wp2_with fail
   obtain⟨W,ga,hW,ega,Bga,hga,hgW,HkW⟩:=al1h w (.cells #[.bool a1,.string a2,.bool false,.string a4,.bool b1,.string b2,.bool false,.string b4,.bool n] 30)
   rw [← hW]
   try rw [ega]
   clear hW ega
   obtain⟨pga,fga,lga⟩:=jQ Bga
   go_wp2_with fail
   refine (H1.out _).mono ?_
   rintro e w1 ⟨rfl,hk_w1⟩
   dsimp only
   clear pga fga lga
   replace Bga:=jH hk_w1 Bga
   replace HkW:=jX (HkW.out.trans0 hk_w1)
   clear hk_w1
   obtain⟨pga,fga,lga⟩:=jQ Bga
   go_wp2_with fail
   refine (H2.out _).mono ?_
   rintro e w2 ⟨rfl,hk_w2⟩
   dsimp only
   clear pga fga lga
   replace Bga:=jH hk_w2 Bga
   replace HkW:=jX (HkW.out.trans0 hk_w2)
   clear hk_w2
   obtain⟨pga,fga,lga⟩:=jQ Bga
   go_wp2_with fail
   refine (HS.out _).mono ?_
   rintro e w3 ⟨rfl,hk_w3⟩
   dsimp only
   clear pga fga lga
   replace Bga:=jH hk_w3 Bga
   replace HkW:=jX (HkW.out.trans0 hk_w3)
   clear hk_w3
   obtain⟨pga,fga,lga⟩:=jQ Bga
   go_wp2_with fail
   refine (HS.out _).mono ?_
   rintro e w4 ⟨rfl,hk_w4⟩
   dsimp only
   clear pga fga lga
   replace Bga:=jH hk_w4 Bga
   replace HkW:=jX (HkW.out.trans0 hk_w4)
   clear hk_w4
   obtain⟨pga,fga,lga⟩:=jQ Bga
   go_wp2_with fail
   refine (HR.out _).mono ?_
   rintro e w5 ⟨qn,qs,qd,ok,rfl,rfl,hk_w5⟩
   dsimp only
   clear pga fga lga
   replace Bga:=jH hk_w5 Bga
   replace HkW:=jX (HkW.out.trans0 hk_w5)
   clear hk_w5
   go_wp2_with fail
   go_ret
   exact ⟨rfl,by repeat (first|(with_reducible exact HkW.out)|(refine Keep.setPast ?_ _ _ _ (by omega))|(refine Keep.allocPast ?_ _)|(refine Keep.drewPast ?_))⟩
end
section
open Classical
theorem rchk_p (x:RawR) (hs:x.sz 1000000) (w:World):Calls Tryz.prog 75 #[x.v] w fun e w'=>e = .returned (errF (decide x.isK))∧Below w.heap.size w w':=by
 obtain⟨a1,a2,a3,a4,b1,b2,b3,b4,n⟩:=x
 obtain⟨hs1,hs2,hs3,hs4⟩:=hs
 dsimp only at hs1 hs2 hs3 hs4
 unfold RawR.v
 dsimp only
 have H1:=jX (qchk_c a1 a2 a3 a4 (by omega) (by omega))
 have H2:=jX (qchk_c b1 b2 b3 b4 (by omega) (by omega))
 have HX:Hid ((RawR.mk a1 a2 a3 a4 b1 b2 b3 b4 n).isK→chkQ a1 a2 a3 a4=true∧chkQ b1 b2 b3 b4=true):=by
  rintro ⟨q,hq,he⟩
  unfold RawR.of at he
  injection he with h1 h2 h3 h4 h5 h6 h7 h8 h9
  exact ⟨chkQ_iff.2 ⟨q.p,h1,h2,h3,h4⟩,chkQ_iff.2 ⟨q.r,h5,h6,h7,h8⟩⟩
 clear hs1 hs2
 cases hca:chkQ a1 a2 a3 a4 with
 | false =>
  rw [hca] at H1
  rw [show errF false = .int .i64 5 from rfl] at H1
  have hres:decide (RawR.mk a1 a2 a3 a4 b1 b2 b3 b4 n).isK=false:=decide_eq_false (fun h=>by have:=(HX.out h).1;rw [hca] at this;cases this)
  rw [hres]
  clear hres hca HX hs3 hs4 H2
  go_enter Tryz.func75,Tryz.ntmps75
  go_upto_region 1 with (fail)
  obtain⟨W,ga,hW,ega,Bga,hga,hgW,HkW⟩:=al1h w (.cells #[.bool a1,.string a2,.bool a3,.string a4,.bool b1,.string b2,.bool b3,.string b4,.bool n] 30)
  rw [← hW]
  try rw [ega]
  clear hW ega
  obtain⟨pga,fga,lga⟩:=jQ Bga
  go_wp2_with fail
  refine (H1.out _).mono ?_
  rintro e w1 ⟨rfl,hk_w1⟩
  dsimp only
  clear pga fga lga
  replace Bga:=jH hk_w1 Bga
  replace HkW:=jX (HkW.out.trans0 hk_w1)
  clear hk_w1
  obtain⟨pga,fga,lga⟩:=jQ Bga
  go_wp2_with fail
  go_ret
  exact ⟨rfl,Keep.below0 (by repeat (first|(with_reducible exact HkW.out)|(refine Keep.setPast ?_ _ _ _ (by omega))|(refine Keep.allocPast ?_ _)|(refine Keep.drewPast ?_)))⟩
 | true =>
  rw [hca] at H1
  rw [show errF true = .int .i64 0 from rfl] at H1
  cases hcb:chkQ b1 b2 b3 b4 with
  | false =>
   rw [hcb] at H2
   rw [show errF false = .int .i64 5 from rfl] at H2
   have hres:decide (RawR.mk a1 a2 a3 a4 b1 b2 b3 b4 n).isK=false:=decide_eq_false (fun h=>by have:=(HX.out h).2;rw [hcb] at this;cases this)
   rw [hres]
   clear hres hca hcb HX hs3 hs4
   go_enter Tryz.func75,Tryz.ntmps75
   go_upto_region 1 with (fail)
   obtain⟨W,ga,hW,ega,Bga,hga,hgW,HkW⟩:=al1h w (.cells #[.bool a1,.string a2,.bool a3,.string a4,.bool b1,.string b2,.bool b3,.string b4,.bool n] 30)
   rw [← hW]
   try rw [ega]
   clear hW ega
   obtain⟨pga,fga,lga⟩:=jQ Bga
   go_wp2_with fail
   refine (H1.out _).mono ?_
   rintro e w1 ⟨rfl,hk_w1⟩
   dsimp only
   clear pga fga lga
   replace Bga:=jH hk_w1 Bga
   replace HkW:=jX (HkW.out.trans0 hk_w1)
   clear hk_w1
   obtain⟨pga,fga,lga⟩:=jQ Bga
   go_wp2_with fail
   refine (H2.out _).mono ?_
   rintro e w2 ⟨rfl,hk_w2⟩
   dsimp only
   clear pga fga lga
   replace Bga:=jH hk_w2 Bga
   replace HkW:=jX (HkW.out.trans0 hk_w2)
   clear hk_w2
   obtain⟨pga,fga,lga⟩:=jQ Bga
   go_wp2_with fail
   go_ret
   exact ⟨rfl,Keep.below0 (by repeat (first|(with_reducible exact HkW.out)|(refine Keep.setPast ?_ _ _ _ (by omega))|(refine Keep.allocPast ?_ _)|(refine Keep.drewPast ?_)))⟩
  | true =>
   rw [hcb] at H2
   rw [show errF true = .int .i64 0 from rfl] at H2
   obtain⟨p,e1,e2,e3,e4⟩:=chkQ_iff.1 hca
   obtain⟨r,e5,e6,e7,e8⟩:=chkQ_iff.1 hcb
   have hfit:FitQ 10000000 r:=by
    refine ⟨?_,?_⟩
    ·have:=hs3;rw [e6] at this;exact Nat.le_trans this (by decide)
    have:=hs4;rw [e8] at this
    unfold dnS at this
    unfold Fit mgS
    rw [Int.natAbs_natCast]
    split at this
    ·rename_i h1;rw [h1];exact Nat.le_trans ((magS_size 1 1).2 (by decide)) (by decide)
    exact Nat.le_trans this (by decide)
   have HR:=jX (proot_p r (hfit.mono (by decide)))
   have HS:=jX (QSign_c r)
   clear hs3 hs4 hca hcb hfit HX
   subst e1 e2 e3 e4 e5 e6 e7 e8
   have HK1:Hid (∀ q:Qn,q.Ok→q.p=p→q.r=r→q.neg=n→(RawR.mk (sgB p.num) (mgS p.num) false (dnS p.den) (sgB r.num) (mgS r.num) false (dnS r.den) n).isK):=fun q hq h1 h2 h3=>⟨q,hq,by unfold RawR.of;rw [h1,h2,h3]⟩
   have HK2:Hid ((RawR.mk (sgB p.num) (mgS p.num) false (dnS p.den) (sgB r.num) (mgS r.num) false (dnS r.den) n).isK→(⟨p,r,n⟩:Qn).Ok):=by
    rintro ⟨q,hq,he⟩
    have:=RawR.of_inj (x:=⟨p,r,n⟩) (y:=q) he
    rw [this];exact hq
   generalize (RawR.mk (sgB p.num) (mgS p.num) false (dnS p.den) (sgB r.num) (mgS r.num) false (dnS r.den) n).isK=KK at *
   unfold rv at HR HS
   have hsg:=sgn_cases r
   unfold RootP rv at HR
   rcases hsg with ⟨hr0,hsg⟩|⟨hr0,hsg⟩|⟨hr0,hsg⟩
   ·have hres:decide KK=false:=decide_eq_false (fun h=>by have:=(HK2.out h).nn;dsimp only at this;grind)
    rw [hres]
    rw [hsg] at HS
    clear hres HK1 HK2 hsg HR hr0
    generalize sgB (p).num=a1 at *
    generalize mgS (p).num=a2 at *
    generalize dnS (p).den=a4 at *
    generalize sgB (r).num=b1 at *
    generalize mgS (r).num=b2 at *
    generalize dnS (r).den=b4 at *
    go_enter Tryz.func75,Tryz.ntmps75
    go_upto_region 1 with (fail)
    obtain⟨W,ga,hW,ega,Bga,hga,hgW,HkW⟩:=al1h w (.cells #[.bool a1,.string a2,.bool false,.string a4,.bool b1,.string b2,.bool false,.string b4,.bool _] 30)
    rw [← hW]
    try rw [ega]
    clear hW ega
    obtain⟨pga,fga,lga⟩:=jQ Bga
    go_wp2_with fail
    refine (H1.out _).mono ?_
    rintro e w1 ⟨rfl,hk_w1⟩
    dsimp only
    clear pga fga lga
    replace Bga:=jH hk_w1 Bga
    replace HkW:=jX (HkW.out.trans0 hk_w1)
    clear hk_w1
    obtain⟨pga,fga,lga⟩:=jQ Bga
    go_wp2_with fail
    refine (H2.out _).mono ?_
    rintro e w2 ⟨rfl,hk_w2⟩
    dsimp only
    clear pga fga lga
    replace Bga:=jH hk_w2 Bga
    replace HkW:=jX (HkW.out.trans0 hk_w2)
    clear hk_w2
    obtain⟨pga,fga,lga⟩:=jQ Bga
    go_wp2_with fail
    refine (HS.out _).mono ?_
    rintro e w3 ⟨rfl,hk_w3⟩
    dsimp only
    clear pga fga lga
    replace Bga:=jH hk_w3 Bga
    replace HkW:=jX (HkW.out.trans0 hk_w3)
    clear hk_w3
    obtain⟨pga,fga,lga⟩:=jQ Bga
    go_wp2_with fail
    go_ret
    exact ⟨rfl,Keep.below0 (by repeat (first|(with_reducible exact HkW.out)|(refine Keep.setPast ?_ _ _ _ (by omega))|(refine Keep.allocPast ?_ _)|(refine Keep.drewPast ?_)))⟩
   ·have hres : decide KK = !n := by
     cases n with
     | true=>exact decide_eq_false (fun h=>by have:=(HK2.out h).zero hr0;cases this)
     | false=>exact decide_eq_true (HK1.out ⟨p,r,false⟩ ⟨by show (0:Rat)≤r;rw [hr0];grind,fun _=>rfl,fun h=>absurd hr0 h⟩ rfl rfl rfl)
    rw [hres]
    rw [hsg] at HS
    clear hres HK1 HK2 hsg HR hr0
    generalize sgB (p).num=a1 at *
    generalize mgS (p).num=a2 at *
    generalize dnS (p).den=a4 at *
    generalize sgB (r).num=b1 at *
    generalize mgS (r).num=b2 at *
    generalize dnS (r).den=b4 at *
    cases n
    all_goals
     go_enter Tryz.func75,Tryz.ntmps75
     go_upto_region 1 with (fail)
     obtain⟨W,ga,hW,ega,Bga,hga,hgW,HkW⟩:=al1h w (.cells #[.bool a1,.string a2,.bool false,.string a4,.bool b1,.string b2,.bool false,.string b4,.bool _] 30)
     rw [← hW]
     try rw [ega]
     clear hW ega
     obtain⟨pga,fga,lga⟩:=jQ Bga
     go_wp2_with fail
     refine (H1.out _).mono ?_
     rintro e w1 ⟨rfl,hk_w1⟩
     dsimp only
     clear pga fga lga
     replace Bga:=jH hk_w1 Bga
     replace HkW:=jX (HkW.out.trans0 hk_w1)
     clear hk_w1
     obtain⟨pga,fga,lga⟩:=jQ Bga
     go_wp2_with fail
     refine (H2.out _).mono ?_
     rintro e w2 ⟨rfl,hk_w2⟩
     dsimp only
     clear pga fga lga
     replace Bga:=jH hk_w2 Bga
     replace HkW:=jX (HkW.out.trans0 hk_w2)
     clear hk_w2
     obtain⟨pga,fga,lga⟩:=jQ Bga
     go_wp2_with fail
     refine (HS.out _).mono ?_
     rintro e w3 ⟨rfl,hk_w3⟩
     dsimp only
     clear pga fga lga
     replace Bga:=jH hk_w3 Bga
     replace HkW:=jX (HkW.out.trans0 hk_w3)
     clear hk_w3
     obtain⟨pga,fga,lga⟩:=jQ Bga
     go_wp2_with fail
     go_ret
     exact ⟨rfl,Keep.below0 (by repeat (first|(with_reducible exact HkW.out)|(refine Keep.setPast ?_ _ _ _ (by omega))|(refine Keep.allocPast ?_ _)|(refine Keep.drewPast ?_)))⟩
   have HRes:Hid (∀ q ok,QRoot r q ok→decide KK = !ok):=by
    intro q ok hq
    cases ok with
    | true=>exact decide_eq_false (fun h=>(HK2.out h).sq (by dsimp only;grind) q (hq.1 rfl).2)
    | false=>exact decide_eq_true (HK1.out ⟨p,r,n⟩ ⟨by show (0:Rat)≤r;grind,fun h=>absurd h (by dsimp only;grind),fun _=>(hq.2 rfl).2⟩ rfl rfl rfl)
   generalize decide KK=res at *
   rw [hsg] at HS
   have HR:Hid (∀ w:World,Calls Tryz.prog 125 #[.agg #[.bool (sgB r.num),.string (mgS r.num),.bool false,.string (dnS r.den)]] w fun e w'=>∃ n s d ok,e = .returned (.tuple #[.agg #[.bool n,.string s,.bool false,.string d],.bool ok])∧res = !ok∧Below w.heap.size w w'):=fun w=>(HR.out w).mono (fun e w' h=>by
    obtain⟨q,ok,he,hq,hk⟩:=h
    exact ⟨_,_,_,ok,he,HRes.out q ok hq,hk⟩)
   clear HRes HK1 HK2 hsg hr0
   generalize sgB (p).num=a1 at *
   generalize mgS (p).num=a2 at *
   generalize dnS (p).den=a4 at *
   generalize sgB (r).num=b1 at *
   generalize mgS (r).num=b2 at *
   generalize dnS (r).den=b4 at *
   go_enter Tryz.func75,Tryz.ntmps75
   go_upto_region 1 with (fail)
   obtain⟨W,ga,hW,ega,Bga,hga,hgW,HkW⟩:=al1h w (.cells #[.bool a1,.string a2,.bool false,.string a4,.bool b1,.string b2,.bool false,.string b4,.bool _] 30)
   rw [← hW]
   try rw [ega]
   clear hW ega
   obtain⟨pga,fga,lga⟩:=jQ Bga
   go_wp2_with fail
   refine (H1.out _).mono ?_
   rintro e w1 ⟨rfl,hk_w1⟩
   dsimp only
   clear pga fga lga
   replace Bga:=jH hk_w1 Bga
   replace HkW:=jX (HkW.out.trans0 hk_w1)
   clear hk_w1
   obtain⟨pga,fga,lga⟩:=jQ Bga
   go_wp2_with fail
   refine (H2.out _).mono ?_
   rintro e w2 ⟨rfl,hk_w2⟩
   dsimp only
   clear pga fga lga
   replace Bga:=jH hk_w2 Bga
   replace HkW:=jX (HkW.out.trans0 hk_w2)
   clear hk_w2
   obtain⟨pga,fga,lga⟩:=jQ Bga
   go_wp2_with fail
   refine (HS.out _).mono ?_
   rintro e w3 ⟨rfl,hk_w3⟩
   dsimp only
   clear pga fga lga
   replace Bga:=jH hk_w3 Bga
   replace HkW:=jX (HkW.out.trans0 hk_w3)
   clear hk_w3
   obtain⟨pga,fga,lga⟩:=jQ Bga
   go_wp2_with fail
   have Hk:=jX HkW.out
   refine (HR.out _).mono ?_
   rintro e w5 ⟨qn,qs,qd,ok,rfl,rfl,hk_w5⟩
   dsimp only
   have HB:=jX ((Hk.out.below0).trans (Below.mono hk_w5 Hk.out.size))
   clear pga fga lga hk_w5
   cases ok
   all_goals
    go_upto_region 11 with (fail)
    obtain⟨W2,gc,hW2,egc,bgc,hgc,hgW2,hkW2⟩:=al1 w5 (.cells #[.bool qn,.string qs,.bool false,.string qd] 28)
    rw [← hW2]
    try rw [egc]
    have Bgc:=jX bgc
    clear hW2 egc bgc
    have HB2:=jX (HB.out.trans (Below.mono hkW2.below0 HB.out.size))
    go_wp2_with fail
    go_ret
    exact ⟨rfl,HB2.out⟩
end
end Go.Proofs.YtpgffjjpiafhpaaGreatDoor
