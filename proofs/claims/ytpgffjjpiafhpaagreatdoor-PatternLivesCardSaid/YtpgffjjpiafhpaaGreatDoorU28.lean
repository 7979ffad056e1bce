/- Parts of a proof: Fo We Wf. -/
import Derived.Test.YtpgffjjpiafhpaaGreatDoorU27
import Derived.Test.YtpgffjjpiafhpaaGreatDoorU15
import Derived.Test.YtpgffjjpiafhpaaGreatDoorU21
set_option linter.unusedVariables false
set_option linter.unusedSimpArgs false
set_option maxRecDepth 100000
set_option maxHeartbeats 8000000
namespace Go.Proofs.YtpgffjjpiafhpaaGreatDoor
open Go.RowKit Tryz
section
open Classical
theorem yaP (q:Rat):(rC q).all (·.oneCell')=true:=all_oneCell_toArray (by
 intro v hv;simp only [rcells,List.mem_cons,List.not_mem_nil,or_false] at hv
 rcases hv with rfl|rfl|rfl|rfl<;>rfl)
theorem StAt.kb {w U:World} {b o:Nat} {x:StV} (h:StAt w b o x) (hb:b<w.heap.size) (hU:Keep [] w U):∀ m:KW U,(loadVar 28 ⟨b,o+9,none⟩).run prog (Wk U m) = .ok (.agg (rC x.s.b)) (Wk U m):=fun m=>((h.keep (hU.block b hb (by simp))).keep (m.k.block b (Nat.lt_of_lt_of_le hb hU.size) (by simp))).lb
theorem StAt.ka {w U:World} {b o:Nat} {x:StV} (h:StAt w b o x) (hb:b<w.heap.size) (hU:Keep [] w U):∀ m:KW U,(loadVar 28 ⟨b,o+5,none⟩).run prog (Wk U m) = .ok (.agg (rC x.s.a)) (Wk U m):=fun m=>((h.keep (hU.block b hb (by simp))).keep (m.k.block b (Nat.lt_of_lt_of_le hb hU.size) (by simp))).la
theorem StAt.kg {w U:World} {b o:Nat} {x:StV} (h:StAt w b o x) (hb:b<w.heap.size) (hU:Keep [] w U):∀ m:KW U,(loadVar 28 ⟨b,o+1,none⟩).run prog (Wk U m) = .ok (.agg (rC x.s.g)) (Wk U m):=fun m=>((h.keep (hU.block b hb (by simp))).keep (m.k.block b (Nat.lt_of_lt_of_le hb hU.size) (by simp))).lg
noncomputable def livAt (s:Nat→St) (n i:Nat):List (Iv K):=livS s n (n-1-i)
theorem live_p (l:List StV) (hg:Good (stS l)) (h1:0<l.length) (h4:l.length≤4) (w:World) (sv:Value) (hr:StR w sv l) :
  Calls prog 40 #[sv] w (LivP w l.length (livAt (sAt (stS l)) l.length)):=by
 have HR:=jX hr;have HG:=jX hg;have HP:=jX (ygX l hg h1 h4 w sv hr);obtain⟨ao,ac,rfl⟩:=hr.form;clear hr hg;have hn1:IntKind.i64.wrap ((l.length:Int)-1)=((l.length-1:Nat):Int):=by rw [show (l.length:Int)-1=((l.length-1:Nat):Int) by omega];exact IntWalk.i64_in _ (by omega)
 go_enter func40,ntmps40
 go_wp2_with fail;refine HP.out.mono ?_;rintro e w1 ⟨g0,vs,rfl,hb1,hg0,ho,hn,hF⟩;dsimp only;have HB1:=jX hb1;have HO1:=jX ho;have HF1:=jX hF;clear hb1 HP ho hF;go_upto_region 4 with (fail)
 go_wp2_with fail;go_loopw [22] (fun c wr=>∃ (k:Nat) (vs:List (Value × List (Iv K))),k≤l.length-1∧c = .int .i64 (k:Int)∧Below w.heap.size w wr∧OutB wr g0 vs∧vs.length=l.length∧∀ i (h:i<vs.length),vs[i].2=if l.length-1-k≤i then livS (sAt (stS l)) l.length (l.length-1-i) else rchS (sAt (stS l)) i) (fun c _=>l.length-(intOf c).toNat)
 case atStart =>
  refine ⟨0,vs,Nat.zero_le _,rfl,HB1.out,HO1.out,hn,fun i h=>?_⟩;rw [HF1.out i h];split
  ·have:i=l.length-1:=by omega
   subst this;rw [Nat.sub_self];rfl
  rfl
 case round =>
  obtain⟨k,vs,hk,rfl,hb,ho,hn,hF⟩:=hrel;have HB:=jX hb;have HO:=jX ho;have HF:=jX hF;clear hb ho hF HB1 HO1 HF1;by_cases hlt:k<l.length-1
  ·obtain⟨j,hj⟩:∃ j,j=l.length-2-k:=⟨_,rfl⟩
   obtain⟨m,hm⟩:∃ m,m=j+1:=⟨_,rfl⟩;have hw1:IntKind.i64.wrap ((l.length:Int)-2)=(l.length:Int)-2:=IntWalk.i64_in _ (by omega);have hw2:IntKind.i64.wrap ((l.length:Int)-2-(k:Int))=(j:Int):=by rw [show (l.length:Int)-2-(k:Int)=(j:Int) by omega];exact IntWalk.i64_in _ (by omega)
   have hw3:IntKind.i64.wrap ((j:Int)+1)=(m:Int):=by rw [show (j:Int)+1=(m:Int) by omega];exact IntWalk.i64_in _ (by omega)
   have hjl:j<l.length:=by omega
   have hml:m<l.length:=by omega
   have hj1:(j:Int)<(l.length:Int):=by omega
   have hm1:(m:Int)<(l.length:Int):=by omega
   have hj0:(0:Int)≤(j:Int):=by omega
   have hm0:(0:Int)≤(m:Int):=by omega
   have hkc:(k:Int)<((l.length-1:Nat):Int):=by omega
   have hjm:j≠m:=by omega
   have hl2:l.length-2-k=j:=hj.symm;have hl3:l.length-1-m=k:=by omega
   have hl4:¬ l.length-1-k≤j:=by omega
   have hl5:l.length-1-k≤m:=by omega
   have hl6:l.length-1-j=k+1:=by omega
   have Hj:=jX hj;have Hm:=jX hm;have Hl:=jX (And.intro hl2 (And.intro hl3 (And.intro hl4 (And.intro hl5 hl6))));clear hj hm hl2 hl3 hl4 hl5 hl6;obtain⟨g,o,rfl,hg,hat⟩:=StR.elem (HR.out.grow HB.out) m hml;obtain⟨gy,oy,hge,hgy,haty⟩:=StR.elem (HR.out.grow HB.out) j hjl;obtain⟨rfl,rfl⟩:gy=g∧oy=o:=by injection hge with hge;injection hge with h1 h2;exact ⟨h1.symm,h2.symm⟩
   have hsm:=ybZ hml;have hsj:=ybZ hjl;have HSab:=jX ((HG.out.pos _ (List.mem_map_of_mem (List.getElem_mem hml))).2);have HSt:=jX (StsOk.at _ HG.out.ok);generalize l[m]=x at *;generalize l[j]=y at *;obtain⟨p,hp⟩:∃ p,oy+m*13=p:=⟨_,rfl⟩;obtain⟨pj,hpj⟩:∃ pj,oy+j*13=pj:=⟨_,rfl⟩;rw [hp] at hat;rw [hpj] at haty;have HL:=jX (yeS wr gy p x hat);have Haty:=jX haty;clear hat haty hge hg;have HA1:=jX (fun u=>QAdd_c x.s.b y.s.g (by rw [← hsm];exact (HSt.out.b m).mono (by decide)) (by rw [← hsj];exact (HSt.out.g j).mono (by decide)) u);have HA2:=jX (fun u=>QAdd_c x.s.a y.s.g (by rw [← hsm];exact (HSt.out.a m).mono (by decide)) (by rw [← hsj];exact (HSt.out.g j).mono (by decide)) u);have HN1:=jX (QNeg_c (x.s.b+y.s.g));have HN2:=jX (QNeg_c (x.s.a+y.s.g));rw [yam,yam,yam] at HA1 HA2;rw [yam,yam] at HN1 HN2;go_upto_region 8 with (fail)
   refine wp_region_lit ?_;refine wV ?_;go_simp;refine wV ?_;go_simp;refine wV ?_;go_simp;refine wV ?_;go_simp;refine wX (v:=.agg x.C) ⟨gy,p,none⟩ (HL.out) ?_;go_simp;refine wA (al_st _ _ _ rfl) (fun w3 gs e2 bgs hgs _ hk1=>?_);go_simp;refine wR gs x.C bgs (by exact ygf x) (by rfl) x.ones (fun w4 b4 k4=>?_);go_simp;clear HL;refine fO ?_;have HW4:=jX (show Keep [] wr w4 from hk1.trans k4 (by simp;omega))
   have HB:=jX (HB.out.trans (Below.mono HW4.out.bz HB.out.size));have HO:=jX (HO.out.grow HW4.out.bz);have Haty:=jX (Haty.out.keep (HW4.out.block gy hgy (by simp)));have hgy:=Nat.lt_of_lt_of_le hgy HW4.out.size;have Bgs:=jX b4;clear HW4 k4 hk1 bgs b4 hgs;go_upto_region 9 with (fail)
   refine yaF 10 [(9,28)] (fun _=>.cells #[.bool false,.string ⟨#[]⟩,.bool false,.string ⟨#[]⟩] 28) (by kernel_rfl) (by kernel_rfl) (by kernel_rfl) (fun t ht ev w o ho=>by simp at ht;subst ht;exact ycb ev w o ho) ?_;intro U hU;have HX1:=jX ((ybC Bgs.out).kb (yaa Bgs.out) hU);have HX2:=jX (Haty.out.kg hgy hU);have Q1:Hid (∀ m:KW U,Calls prog 106 #[.agg (rC x.s.b),.agg (rC y.s.g)] (Wk U m) fun e w'=>e = .returned (.agg (rC (x.s.b+y.s.g)))∧∃ m,w'=Wk U m):=fun m=>qk m (HA1.out _);have Q2:Hid (∀ m:KW U,Calls prog 60 #[.agg (rC (x.s.b+y.s.g))] (Wk U m) fun e w'=>e = .returned (.agg (rC (-(x.s.b+y.s.g))))∧∃ m,w'=Wk U m):=fun m=>qk m (HN1.out _);simp only [List.map_cons,List.map_nil,unal,isAl,if_true,if_false,Bool.false_eq_true,List.take_succ_cons,List.take_zero]
   repeat (first
    | go_big_quiet_skip
    | (go_big_quiet_want;first
     | (refine yaj _ _ _ (.agg (rC x.s.b)) rfl rfl (by rintro _ ⟨m,rfl⟩;exact HX1.out m) ?_;go_simp;go_big_quiet_on)|(refine yaj _ _ _ (.agg (rC y.s.g)) rfl rfl (by rintro _ ⟨m,rfl⟩;exact HX2.out m) ?_;go_simp;go_big_quiet_on)
     | (go_big_quiet_op;first|go_big_quiet_on|go_big_quiet_call (first
      | (go_at_call 106;with_reducible exact (Q1).out _)|(go_at_call 60;with_reducible exact (Q2).out _)))))
   refine wpQuiet_nil ?_;intro p hp1 hp2 w5 hk_w5 hz;have bgx:=hz (9,28) (by simp);have hgx:=hp1 9 (by simp);simp only [List.map_cons,List.map_nil,pl,List.drop_succ_cons,List.drop_zero];dsimp only at bgx;generalize p 9=ge at *;have Bge:=jX bgx;have hge:=hgx;clear hz hp1 hp2 bgx hgx;clear Q1 Q2 hU HX1 HX2 p U;refine ybm (by rfl) _ _ _ rfl ge (rC (-(x.s.b+y.s.g))) rfl rfl _ _ Bge.out (by exact q_size) (by rfl) (yaP _) (fun K hK=>?_);obtain⟨w6,e4,b4,k4⟩:=yaL (cs:=rC (-(x.s.b+y.s.g))) Bge.out;rw [e4];go_simp;go_step
   clear e4 Bge;have Bge:=jX b4;have HKx:=jX (show Keep [] w4 w6 from hk_w5.trans k4 (by simp;omega))
   have HB:=jX (HB.out.trans (Below.mono HKx.out.bz HB.out.size));have HO:=jX (HO.out.grow HKx.out.bz);have Bgs:=jX (HKx.out.heap Bgs.out (by simp));have Haty:=jX (Haty.out.keep (HKx.out.block gy hgy (by simp)));have hgy:=Nat.lt_of_lt_of_le hgy HKx.out.size;clear k4 b4 hk_w5;go_upto_region 10 with (fail)
   refine yaF 10 [(10,28)] (fun _=>.cells #[.bool false,.string ⟨#[]⟩,.bool false,.string ⟨#[]⟩] 28) (by kernel_rfl) (by kernel_rfl) (by kernel_rfl) (fun t ht ev w o ho=>by simp at ht;subst ht;exact ycb ev w o ho) ?_;intro U hU;have HX1:=jX ((ybC Bgs.out).ka (yaa Bgs.out) hU);have HX2:=jX (Haty.out.kg hgy hU);have Q1:Hid (∀ m:KW U,Calls prog 106 #[.agg (rC x.s.a),.agg (rC y.s.g)] (Wk U m) fun e w'=>e = .returned (.agg (rC (x.s.a+y.s.g)))∧∃ m,w'=Wk U m):=fun m=>qk m (HA2.out _);have Q2:Hid (∀ m:KW U,Calls prog 60 #[.agg (rC (x.s.a+y.s.g))] (Wk U m) fun e w'=>e = .returned (.agg (rC (-(x.s.a+y.s.g))))∧∃ m,w'=Wk U m):=fun m=>qk m (HN2.out _);simp only [List.map_cons,List.map_nil,unal,isAl,if_true,if_false,Bool.false_eq_true,List.take_succ_cons,List.take_zero]
   repeat (first
    | go_big_quiet_skip
    | (go_big_quiet_want;first
     | (refine yaj _ _ _ (.agg (rC x.s.a)) rfl rfl (by rintro _ ⟨m,rfl⟩;exact HX1.out m) ?_;go_simp;go_big_quiet_on)|(refine yaj _ _ _ (.agg (rC y.s.g)) rfl rfl (by rintro _ ⟨m,rfl⟩;exact HX2.out m) ?_;go_simp;go_big_quiet_on)
     | (go_big_quiet_op;first|go_big_quiet_on|go_big_quiet_call (first
      | (go_at_call 106;with_reducible exact (Q1).out _)|(go_at_call 60;with_reducible exact (Q2).out _)))))
   refine wpQuiet_nil ?_;intro p hp1 hp2 w7 hk_w7 hz;have bgx:=hz (10,28) (by simp);have hgx:=hp1 10 (by simp);simp only [List.map_cons,List.map_nil,pl,List.drop_succ_cons,List.drop_zero];dsimp only at bgx;generalize p 10=gf at *;have Bgf:=jX bgx;have hgf:=hgx;clear hz hp1 hp2 bgx hgx;clear Q1 Q2 hU HX1 HX2 p U;refine ybm (by rfl) _ _ _ rfl gf (rC (-(x.s.a+y.s.g))) rfl rfl _ _ Bgf.out (by exact q_size) (by rfl) (yaP _) (fun K hK=>?_);obtain⟨w8,e4,b4,k4⟩:=yaL (cs:=rC (-(x.s.a+y.s.g))) Bgf.out;rw [e4];go_simp;go_step
   clear e4 Bgf;have Bgf:=jX b4;have HKx:=jX (show Keep [] w6 w8 from hk_w7.trans k4 (by simp;omega))
   have HB:=jX (HB.out.trans (Below.mono HKx.out.bz HB.out.size));have HO:=jX (HO.out.grow HKx.out.bz);have Bgs:=jX (HKx.out.heap Bgs.out (by simp));have Haty:=jX (Haty.out.keep (HKx.out.block gy hgy (by simp)));have hgy:=Nat.lt_of_lt_of_le hgy HKx.out.size;clear k4 b4 hk_w7;have Bge:=jX (HKx.out.heap Bge.out (by simp));clear HKx HA1 HA2 HN1 HN2 Haty Bgs;obtain⟨a1,c1,q1,hl1⟩:=HO.out.cell j (by omega);obtain⟨a2,c2,q2,hl2⟩:=HO.out.cell m (by omega);rw [HF.out j (by omega),if_neg Hl.out.2.2.1] at q1 hl1;rw [HF.out m (by omega),if_pos Hl.out.2.2.2.1,Hl.out.2.1] at q2 hl2;have fa:FitQ 24 (-(x.s.b+y.s.g)):=by rw [← hsm,← hsj];exact (ydc (HSt.out.b m) (HSt.out.g j)).neg
   have fb:FitQ 24 (-(x.s.a+y.s.g)):=by rw [← hsm,← hsj];exact (ydc (HSt.out.a m) (HSt.out.g j)).neg
   have fab : -(x.s.b+y.s.g) ≤ -(x.s.a+y.s.g):=by have:=HSab.out;grind
   have HFs:=(liv_few2 HSt.out.few h4 k (by omega)).swp (a:=-(x.s.b+y.s.g)) (b:=-(x.s.a+y.s.g));have HSw:=jX (fun u (h:Ls u [(.slice a2 (livS (sAt (stS l)) l.length k).length c2,livS (sAt (stS l)) l.length k)])=>h.sweep (k0:=253+25*k) (by omega) (yiA HSt.out h4 k (by omega)) fa fb fab (le10 HFs (yau _ _ _) (by omega)))
   have hfin:combK 2 (rchS (sAt (stS l)) j) (swpK (-(x.s.b+y.s.g)) (-(x.s.a+y.s.g)) (livS (sAt (stS l)) l.length k))=livS (sAt (stS l)) l.length (k+1):=by
    show _=combK 2 _ _
    rw [Hl.out.1,← Hm.out,hsm,hsj]
   have hli:(combK 2 (rchS (sAt (stS l)) j) (swpK (-(x.s.b+y.s.g)) (-(x.s.a+y.s.g)) (livS (sAt (stS l)) l.length k))).length≤10000:=by
    rw [hfin];exact le10 (yhJ HSt.out.few h1 h4 (k+1) (by omega)) (yet _) (by omega)
   have HIn:=jX (fun u a4 c4 (h:Ls u [(.slice a1 (rchS (sAt (stS l)) j).length c1,rchS (sAt (stS l)) j),(.slice a4 (swpK (-(x.s.b+y.s.g)) (-(x.s.a+y.s.g)) (livS (sAt (stS l)) l.length k)).length c4,swpK (-(x.s.b+y.s.g)) (-(x.s.a+y.s.g)) (livS (sAt (stS l)) l.length k))])=>h.inter (List.mem_cons_self ..) (List.mem_cons_of_mem _ (List.mem_cons_self ..)) hli);have Hfin:=jX hfin;have Hl1:=jX hl1;have Hl2:=jX hl2;clear fa fb fab HFs hfin hli hl1 hl2 HSab HSt hsm hsj;generalize livS (sAt (stS l)) l.length k=R at *;generalize rchS (sAt (stS l)) j=E at *;generalize swpK (-(x.s.b+y.s.g)) (-(x.s.a+y.s.g)) R=SW at *;obtain⟨IN,hIN⟩:∃ I,combK 2 E SW=I:=⟨_,rfl⟩;rw [hIN] at HIn Hfin;clear hIN;generalize -(x.s.b+y.s.g)=A1 at *;generalize -(x.s.a+y.s.g)=A2 at *;have HQ1:=jX q1;have HQ2:=jX q2;clear q1 q2;go_upto_region 11 with (fail)
   refine yae (S:=fun u=>Below w8.heap.size w8 u) 15 (by kernel_rfl) (by kernel_rfl) (fun _ _ d _ _ h=>by cases d<;>exact h) ?_;have hS0:=(Keep.drew [] w8).bz;generalize World.drew w8=u2 at *;refine tV 0 hS0 ?_;go_simp;refine tV 1 hS0 ?_;go_simp;refine tV 2 hS0 ?_;go_simp;refine tV 3 hS0 ?_;go_simp;refine tV 4 hS0 ?_;go_simp;refine' jG (v:=_) 5 hS0 (fun w hw=>?hsw5) (fun K hK=>?ksw5)
   case hsw5=>(have q8:=(World.cell?_of_block (hw.block g0 (yaa HO.out.blk))).trans HQ1.out;go_simp;try rfl)
   go_simp;go_step
   refine tV 6 hS0 ?_;go_simp;refine tV 7 hS0 ?_;go_simp;refine tV 8 hS0 ?_;go_simp;refine tV 9 hS0 ?_;go_simp;refine' jG (v:=_) 10 hS0 (fun w hw=>?hsw10) (fun K hK=>?ksw10)
   case hsw10=>(have q8:=(World.cell?_of_block (hw.block g0 (yaa HO.out.blk))).trans HQ2.out;go_simp;try rfl)
   go_simp;go_step
   refine jG (v:=.agg (rC A1)) 11 hS0 (fun w hw=>yan _ _ ⟨ge,0,none⟩ _ rfl rfl (ycw ((hw.block ge (yaa Bge.out)).trans Bge.out))) (fun K hK=>?_);go_simp;go_step
   refine jG (v:=.agg (rC A2)) 12 hS0 (fun w hw=>yan _ _ ⟨gf,0,none⟩ _ rfl rfl (ycw ((hw.block gf (yaa Bgf.out)).trans Bgf.out))) (fun K hK=>?_);go_simp;go_step
   refine jP 13 (fun K hK=>?_);refine yaf 59 #[.slice a2 R.length c2,.agg (rC A1),.agg (rC A2)] (by go_simp) ?_;refine (HSw.out _ (Hl2.out.grow hS0)).mono ?_;rintro e u3 ⟨a4,c4,rfl,hb,hl4⟩;have hS0:=hS0.trans (Below.mono hb hS0.size);refine ⟨_,rfl,?_⟩;go_simp;refine hK _ _ hS0 ?_;clear hK K;refine jP 14 (fun K hK=>?_);refine yaf 108 #[.slice a1 E.length c1,.slice a4 SW.length c4] (by go_simp) ?_;refine (HIn.out _ a4 c4 ((Hl1.out.grow hS0).one hl4)).mono ?_;rintro e u4 ⟨a5,c5,rfl,hb,hl5⟩;have hS0:=hS0.trans (Below.mono hb hS0.size);refine ⟨_,rfl,?_⟩;go_simp;refine hK _ _ hS0 ?_;clear hK K;refine ⟨by kernel_rfl,?_⟩;simp only [List.drop_succ_cons,List.drop_zero];have HB8:=jX (HB.out.trans (Below.mono hS0 HB.out.size));have HO8:=jX (HO.out.grow hS0);have Hl5:=jX hl5.hd;clear hS0 hb hl5 hl4 HO HB Bge Bgf HQ1 HQ2 Hl1 Hl2 HSw HIn;obtain⟨W9,eW,ho9,hk9⟩:=HO8.out.set (by omega) j (by omega) Hl5.out;obtain⟨b0,d0,q0,_⟩:=HO8.out.cell j (by omega);have f0:=yai HO8.out.blk;have l0:=yaa HO8.out.blk;have HB9:=jX (HB8.out.trans (hk9.below (by simp;omega) HB8.out.size));have HO9:=jX ho9;clear hk9 ho9 HB8 HO8;go_wp2_with fail;go_roundw
   case rel =>
    have hjo:=Hj.out;refine ⟨k+1,_,by omega,congrArg (Value.int .i64) (by omega),HB9.out,HO9.out,by rw [List.length_set];exact hn,fun i hi=>?_⟩;by_cases hij:i=j
    ·subst hij
     rw [List.getElem_set_self,if_pos (by omega),Hl.out.2.2.2.2];exact Hfin.out
    rw [List.getElem_set_ne (by omega),HF.out i (by rw [List.length_set] at hi;exact hi)];by_cases hc:l.length-1-k≤i
    ·rw [if_pos hc,if_pos (by omega)]
    rw [if_neg hc,if_neg (by omega)]
   case measure=>simp [intOf];omega
  have hkn:k=l.length-1:=by omega
  have hF2:∀ i (h:i<vs.length),vs[i].2=livAt (sAt (stS l)) l.length i:=fun i hi=>by
   rw [HF.out i hi,if_pos (by omega)];rfl
  have HF2:=jX hF2;clear hF2 HF;have hkc:¬ ((k:Int)<((l.length-1:Nat):Int)):=by omega
  clear hkn;go_wp2_with fail;go_ret2
  exact ⟨g0,vs,rfl,HB.out,hg0,HO.out,hn,HF2.out⟩
end
section
open Classical
def Qn.sh (x:Qn) (c:Rat):Qn:=⟨x.p+c,x.r,x.neg⟩
theorem sh_u (x:Qn) (c:Rat):(x.sh c).u=x.u:=rfl
theorem sh_ok {x:Qn} (hx:x.Ok) (c:Rat):(x.sh c).Ok:=⟨hx.nn,hx.zero,hx.sq⟩
theorem yiN {x:Qn} {c q:Rat}:Above1 q (x.sh c)↔Above1 (q-c) x:=by
 unfold Above1;rw [sh_u];have e:q-(x.sh c).p=q-c-x.p:=by unfold Qn.sh;grind
 rw [e];rfl
theorem ygg {x:Qn} {c q:Rat}:Below1 q (x.sh c)↔Below1 (q-c) x:=by
 unfold Below1;rw [sh_u];have e:(x.sh c).p-q=x.p-(q-c):=by unfold Qn.sh;grind
 rw [e];rfl
theorem ycE {x:Qn} {q q':Rat} (hx:x.Ok) (h:¬ Below1 q x) (hq:q<q'):Above1 q' x:=by
 by_cases hr:x.r=0
 ·unfold Below1 at h
  unfold Above1;rw [hr,yaY] at h ⊢;grind
 rw [yca hx hr,Classical.not_not] at h;exact h.mono hx.nn (by grind)
theorem ycI {x:Qn} {q q':Rat} (hx:x.Ok) (h:¬ Above1 q x) (h2:Above1 q' x):q<q':=by
 by_cases h3:q<q'
 ·exact h3
 exact absurd (h2.mono hx.nn (by grind)) h
theorem below_cmp {x:Qn} {q q':Rat} (hx:x.Ok) (h:¬ Below1 q x) (h2:Below1 q' x):q'<q:=by
 by_cases h3:q'<q
 ·exact h3
 exact absurd (h2.mono hx.nn (by grind)) h
noncomputable def simpF:Nat→Qn→Qn→Rat
 | 0,_,_=>0
 | n+1,x,y =>
  if Below1 ((x.flr+1:Int):Rat) y then ((x.flr+1:Int):Rat)
  else 1 / (if Below1 0 (x.sh (-(x.flr:Rat))) then simpF n (y.sh (-(x.flr:Rat))).inv (x.sh (-(x.flr:Rat))).inv else (((y.sh (-(x.flr:Rat))).inv.flr+1:Int):Rat))+(x.flr:Rat)
structure Wit (x y:Qn) (p q:Nat):Prop where
 q0:0<q
 xo:x.Ok
 yo:y.Ok
 nn:¬ Above1 0 x
 a:Above1 ((p:Rat) / (q:Rat)) x
 b:Below1 ((p:Rat) / (q:Rat)) y
theorem ydx {a b:Nat}:(a:Rat)<(b:Rat)↔a<b:=by
 have:=ybN (a:=(a:Int)) (b:=(b:Int));rw [Rat.intCast_natCast,Rat.intCast_natCast] at this;rw [this];omega
theorem yaz {a:Nat} (h:0<a):(0:Rat)<(a:Rat):=(ydx (a:=0)).2 h
theorem Wit.flr {x y:Qn} {p q:Nat} (h:Wit x y p q):∃ b:Nat,x.flr=(b:Int)∧b*q<p:=by
 obtain⟨f1,f2⟩:=yih h.xo
 have h0:0≤x.flr:=by
  by_cases h0:0≤x.flr
  ·exact h0
  exfalso;refine h.nn (f2.mono h.xo.nn ?_);have:=yaB (a:=x.flr+1) (b:=0);exact this.2 (by omega)
 obtain⟨b,hb⟩:=Int.eq_ofNat_of_zero_le h0;refine ⟨b,hb,?_⟩;rw [hb,Rat.intCast_natCast] at f1;have h2:=ycI h.xo f1 h.a;have hq:=yaz h.q0;rw [Rat.lt_div_iff hq] at h2;rw [← ydx,Rat.natCast_mul];exact h2
theorem Wit.next {x y:Qn} {p q b:Nat} (h:Wit x y p q) (hb:x.flr=(b:Int)) (hn:¬ Below1 ((x.flr+1:Int):Rat) y) :
  ∃ r:Nat,p=b*q+r∧0<r∧r<q∧(y.sh (-(x.flr:Rat))).Ok∧Below1 0 (y.sh (-(x.flr:Rat))) ∧ ¬ Above1 0 (y.sh (-(x.flr:Rat))).inv∧Above1 ((q:Rat) / (r:Rat)) (y.sh (-(x.flr:Rat))).inv ∧
   (Below1 0 (x.sh (-(x.flr:Rat)))→Wit (y.sh (-(x.flr:Rat))).inv (x.sh (-(x.flr:Rat))).inv q r):=by
 obtain⟨b',hb',h1⟩:=h.flr;obtain rfl:b'=b:=by omega
 rw [hb] at hn;rw [hb,Rat.intCast_natCast];clear hb hb';have hq:=yaz h.q0
 have h2:p<b'*q+q:=by
  have h3:=below_cmp h.yo hn h.b;rw [Rat.div_lt_iff hq] at h3;have e:((b':Int)+1:Int)=((b'+1:Nat):Int):=by omega
  rw [e,Rat.intCast_natCast,← Rat.natCast_mul,ydx,Nat.succ_mul] at h3;exact h3
 obtain⟨r,hr⟩:=Nat.le.dest (Nat.le_of_lt h1);have hr0:=yaz (a:=r) (by omega);have hpe:(p:Rat)=(b':Rat)*q+r:=by rw [← hr,Rat.natCast_add,Rat.natCast_mul]
 have hd:(p:Rat) / q-(b':Rat)=(r:Rat) / q:=by
  rw [hpe,Rat.div_def,Rat.div_def];have:(q:Rat)*(q:Rat)⁻¹=1:=Rat.mul_inv_cancel _ (by grind);grind
 have hy:=sh_ok h.yo (-(b':Rat));have hx:=sh_ok h.xo (-(b':Rat))
 have hyb:Below1 ((r:Rat) / q) (y.sh (-(b':Rat))):=by
  rw [ygg,← hd];have:(p:Rat) / q-(b':Rat) - -(b':Rat)=(p:Rat) / q:=by grind
  rw [this];exact h.b
 have hxa:Above1 ((r:Rat) / q) (x.sh (-(b':Rat))):=by
  rw [yiN,← hd];have:(p:Rat) / q-(b':Rat) - -(b':Rat)=(p:Rat) / q:=by grind
  rw [this];exact h.a
 have hrq:0<(r:Rat) / q:=by rw [Rat.lt_div_iff hq];grind
 have hqr:0<(q:Rat) / r:=by rw [Rat.lt_div_iff hr0];grind
 have hinv:1 / ((q:Rat) / r)=(r:Rat) / q:=by
  rw [Rat.div_def,Rat.div_def,Rat.div_def,Rat.inv_mul_rev,Rat.inv_inv];grind
 have hy0:Below1 0 (y.sh (-(b':Rat))):=hyb.mono hy.nn (Rat.le_of_lt hrq)
 have hA:Above1 ((q:Rat) / r) (y.sh (-(b':Rat))).inv:=by
  rw [inv_above hy hy0 hqr,hinv];exact hyb
 have hN:¬ Above1 0 (y.sh (-(b':Rat))).inv:=by
  intro h3
  have h4:Above1 2 (y.sh (-(b':Rat))):=by
   refine ycE (q:=1) hy (fun h5=>hn ?_) (by grind);rw [ygg] at h5;have:(((b':Int)+1:Int):Rat)=1 - -(b':Rat):=by rw [Rat.intCast_add,Rat.intCast_natCast];have:((1:Int):Rat)=1:=rfl;grind
   rw [this];exact h5
  have h6:Below1 (1 / 2) (y.sh (-(b':Rat))).inv:=by
   rw [yeE hy hy0 (by rw [Rat.lt_div_iff (by grind)];grind)]
   have:(1:Rat) / (1 / 2)=2:=by
    rw [Rat.div_def,Rat.div_def,Rat.inv_mul_rev,Rat.inv_inv];grind
   rw [this];exact h4
  have:=ybw (yem hy).nn h6 h3;grind
 refine ⟨r,by omega,by omega,by omega,hy,hy0,hN,hA,fun h0=>⟨by omega,yem hy,yem hx,hN,hA,?_⟩⟩;rw [yeE hx h0 hqr,hinv];exact hxa
theorem simpF_ok:∀ (n p q:Nat) (x y:Qn),q≤n→Wit x y p q→Above1 (simpF n x y) x∧Below1 (simpF n x y) y∧∃ a c:Nat,0<a∧0<c∧simpF n x y=(a:Rat) / (c:Rat)∧a≤p∧c≤q
 | 0,p,q,x,y,hq,h=>by have:=h.q0;omega
 | n+1,p,q,x,y,hq,h=>by
  obtain⟨b,hb,hbq⟩:=h.flr;have hq1:=h.q0;have hbb:b≤b*q:=Nat.le_mul_of_pos_right b hq1;obtain⟨f1,f2⟩:=yih h.xo;unfold simpF;by_cases hB:Below1 ((x.flr+1:Int):Rat) y
  ·rw [if_pos hB]
   refine ⟨f2,hB,b+1,1,by omega,by omega,?_,by omega,by omega⟩;rw [hb];have e:((b:Int)+1:Int)=((b+1:Nat):Int):=by omega
   rw [e,Rat.intCast_natCast,Rat.div_def];have:((1:Nat):Rat)=1:=rfl;rw [this];grind
  rw [if_neg hB];obtain⟨r,hp,hr0,hrq,hy,hy0,hN,hA,hW⟩:=h.next hb hB;have hx:=sh_ok h.xo (-(x.flr:Rat))
  -- whatever lies between the two reciprocals serves
  have key:∀ s:Rat,0<s→Above1 s (y.sh (-(x.flr:Rat))).inv→Above1 (1 / s) (x.sh (-(x.flr:Rat)))→Above1 (1 / s+(x.flr:Rat)) x∧Below1 (1 / s+(x.flr:Rat)) y:=by
   intro s hs h1 h2;rw [yiN] at h2;rw [inv_above hy hy0 hs,ygg] at h1;have e:1 / s - -(x.flr:Rat)=1 / s+(x.flr:Rat):=by grind
   rw [e] at h1 h2;exact ⟨h2,h1⟩
  have frac:∀ (s:Rat) (a c:Nat),0<a→0<c→s=(a:Rat) / (c:Rat)→a≤q→c≤r→∃ a c:Nat,0<a∧0<c∧1 / s+(x.flr:Rat)=(a:Rat) / (c:Rat)∧a≤p∧c≤q:=by
   intro s a c ha hc hs haq hcr;refine ⟨c+b*a,a,by omega,ha,?_,?_,haq⟩
   ·have ha':=yaz ha
    have hc':=yaz hc;have h3:(a:Rat)*(a:Rat)⁻¹=1:=Rat.mul_inv_cancel _ (by grind);rw [hs,hb,Rat.intCast_natCast,Rat.div_def,Rat.div_def,Rat.div_def,Rat.inv_mul_rev,Rat.inv_inv,Rat.natCast_add,Rat.natCast_mul];grind
   have:=Nat.mul_le_mul_left b haq;omega
  by_cases h0:Below1 0 (x.sh (-(x.flr:Rat)))
  ·rw [if_pos h0]
   have hw:=hW h0;obtain⟨i1,i2,a,c,ha,hc,hs,haq,hcr⟩:=simpF_ok n q r _ _ (by omega) hw;generalize simpF n (y.sh (-(x.flr:Rat))).inv (x.sh (-(x.flr:Rat))).inv=s at *
   have hs0:0<s:=by
    rw [hs,Rat.lt_div_iff (yaz hc)];have:=yaz ha;grind
   rw [yeE hx h0 hs0] at i2;obtain⟨k1,k2⟩:=key s hs0 i1 i2;exact ⟨k1,k2,frac s a c ha hc hs haq hcr⟩
  rw [if_neg h0];obtain⟨g1,g2⟩:=yih (yem hy)
  have e0:0≤(y.sh (-(x.flr:Rat))).inv.flr:=by
   by_cases e0:0≤(y.sh (-(x.flr:Rat))).inv.flr
   ·exact e0
   exfalso;exact hN (g2.mono (yem hy).nn ((yaB (b:=0)).2 (by omega)))
  obtain⟨e,he⟩:=Int.eq_ofNat_of_zero_le e0;rw [he] at g1 g2 ⊢;have heq:((e:Int)+1:Int)=((e+1:Nat):Int):=by omega
  rw [heq,Rat.intCast_natCast] at g2 ⊢;rw [Rat.intCast_natCast] at g1;have hs0:=yaz (a:=e+1) (by omega);have hx0:Above1 (1 / ((e+1:Nat):Rat)) (x.sh (-(x.flr:Rat))):=ycE hx h0 (ydL hs0);obtain⟨k1,k2⟩:=key _ hs0 g2 hx0;refine ⟨k1,k2,frac _ (e+1) 1 (by omega) (by omega) ?_ ?_ hr0⟩
  ·rw [Rat.div_def]
   have:((1:Nat):Rat)=1:=rfl;rw [this];grind
  have h5:=ycI (yem hy) g1 hA;rw [Rat.lt_div_iff (yaz hr0),← Rat.natCast_mul,ydx] at h5;have:=Nat.le_mul_of_pos_right e hr0;omega
theorem simpF_fuel:∀ (n m p q:Nat) (x y:Qn),q≤n→q≤m→Wit x y p q→simpF n x y=simpF m x y
 | 0,m,p,q,x,y,hq,hm,h=>by have:=h.q0;omega
 | n+1,0,p,q,x,y,hq,hm,h=>by have:=h.q0;omega
 | n+1,m+1,p,q,x,y,hq,hm,h=>by
  obtain⟨b,hb,hbq⟩:=h.flr;unfold simpF;by_cases hB:Below1 ((x.flr+1:Int):Rat) y
  ·rw [if_pos hB,if_pos hB]
  rw [if_neg hB,if_neg hB];obtain⟨r,hp,hr0,hrq,hy,hy0,hN,hA,hW⟩:=h.next hb hB;by_cases h0:Below1 0 (x.sh (-(x.flr:Rat)))
  ·rw [if_pos h0,if_pos h0,simpF_fuel n m q r _ _ (by omega) (by omega) (hW h0)]
  rw [if_neg h0,if_neg h0]
end
section
open Classical
def Form (H:Int) (x:Qn):Prop:=∃ A B C:Int,A≠0 ∧ -H≤A∧A≤H ∧ -(2*H)≤B∧B≤2*H ∧ -H≤C∧C≤H∧x.p*(2*(A:Rat)) = -(B:Rat)∧x.r*(4*((A:Rat)*(A:Rat)))=(B:Rat)*B-4*((A:Rat)*C)
theorem Form.pos {H:Int} {x:Qn} (h:Form H x):0<H:=by
 obtain⟨A,B,C,h0,h1,h2,h3,h4,h5,h6,h7,h8⟩:=h;omega
theorem ycj {a b A C:Int} (ha : -A≤a∧a≤A) (hb : -C≤b∧b≤C) : -(A*C)≤a*b∧a*b≤A*C:=by
 obtain⟨a1,a2⟩:=ha;obtain⟨b1,b2⟩:=hb;have x1:=Int.mul_nonneg (a:=A-a) (b:=C-b) (by omega) (by omega);have x2:=Int.mul_nonneg (a:=A+a) (b:=C+b) (by omega) (by omega);have x3:=Int.mul_nonneg (a:=A-a) (b:=C+b) (by omega) (by omega);have x4:=Int.mul_nonneg (a:=A+a) (b:=C-b) (by omega) (by omega);constructor<;>grind
theorem Form.sh {H:Int} {x:Qn} {b:Nat} (h:Form H x):Form (H*((1+b)*(1+b))) (x.sh (-((b:Int):Rat))):=by
 have hH:=h.pos;obtain⟨A,B,C,h0,h1,h2,h3,h4,h5,h6,h7,h8⟩:=h;have a1:=ycj (a:=A) (b:=b) (A:=H) (C:=b) ⟨h1,h2⟩ ⟨by omega,by omega⟩;have a2:=ycj (a:=A*b) (b:=b) (A:=H*b) (C:=b) a1 ⟨by omega,by omega⟩;have a3:=ycj (a:=B) (b:=b) (A:=2*H) (C:=b) ⟨h3,h4⟩ ⟨by omega,by omega⟩;have a4:0≤H*(b:Int):=Int.mul_nonneg (by omega) (by omega);have a5:0≤H*(b:Int)*b:=Int.mul_nonneg a4 (by omega);have e:H*((1+(b:Int))*(1+b))=H+2*(H*b)+H*b*b:=by grind
 rw [e];refine ⟨A,B+2*(A*b),A*b*b+B*b+C,h0,by omega,by omega,by omega,by omega,by grind,by grind,?_,?_⟩
 ·show (x.p + -((b:Int):Rat))*(2*(A:Rat))=_
  rw [Rat.intCast_add,yak,yak];have:((2:Int):Rat)=2:=rfl;rw [this];grind
 show x.r*_=_
 rw [h8];rw [Rat.intCast_add,Rat.intCast_add,Rat.intCast_add,yak,yak,yak,yak,yak];have:((2:Int):Rat)=2:=rfl;rw [this];grind
theorem yhw {a:Int} (h:a≠0):(a:Rat)≠0:=fun e=>h (Rat.intCast_inj.1 (e.trans (show (0:Rat)=((0:Int):Rat) from rfl)))
theorem Form.inv {H:Int} {x:Qn} (hx:x.Ok) (hp:Below1 0 x) (h:Form H x):Form H x.inv:=by
 obtain⟨A,B,C,h0,h1,h2,h3,h4,h5,h6,h7,h8⟩:=h;have hA:=yhw h0
 have hC:(C:Rat)=(A:Rat)*(x.p*x.p-x.r):=by
  have:(A:Rat)*(C-(A:Rat)*(x.p*x.p-x.r))=0:=by
   have hB:(B:Rat) = -(x.p*(2*(A:Rat))):=by grind
   rw [hB] at h8;grind
  rcases Rat.mul_eq_zero.1 this with h|h
  ·exact absurd h hA
  grind
 unfold Qn.inv;by_cases hr:x.r=0
 ·rw [if_pos hr]
  have hpp:0<x.p:=by
   unfold Below1 at hp;rw [hr,yaY] at hp;grind
  have hip:1 / x.p*x.p=1:=Rat.div_mul_cancel (by grind);rw [hr] at hC h8;refine ⟨C,B,A,?_,h5,h6,h3,h4,h1,h2,?_,?_⟩
  ·rintro rfl
   have h9:(A:Rat)*(x.p*x.p-0)=0:=hC.symm;rcases Rat.mul_eq_zero.1 h9 with h|h
   ·exact hA h
   have:=yal hpp hpp;grind
  ·show 1 / x.p*_=_
   rw [hC];grind
  show 0*_=_
  grind
 rw [if_neg hr];have hN:x.p*x.p-x.r≠0:=fun e=>hx.sq hr x.p (by grind);have hNN:1 / (x.p*x.p-x.r)*(x.p*x.p-x.r)=1:=Rat.div_mul_cancel hN;generalize 1 / (x.p*x.p-x.r)=k at *;refine ⟨C,B,A,?_,h5,h6,h3,h4,h1,h2,?_,?_⟩
 ·rintro rfl
  have h9:(A:Rat)*(x.p*x.p-x.r)=0:=hC.symm;rcases Rat.mul_eq_zero.1 h9 with h|h
  ·exact hA h
  exact hN h
 ·show x.p*k*_=_
  rw [hC];grind
 show k*k*x.r*_=_
 rw [hC];grind
theorem size_step {H M:Int} {p q b r:Nat} (hH:0≤H) (hp:p=b*q+r) (hr0:0<r) (hrq:r<q) (h:H*((p*q:Nat)*(p*q:Nat))≤M):H*((1+(b:Int))*(1+b))*((q*r:Nat)*(q*r:Nat))≤M:=by
 have h1:(1+b)*r≤p:=by
  have:=Nat.mul_le_mul_left b (Nat.le_of_lt hrq);rw [Nat.add_mul,Nat.one_mul];omega
 have h2:(1+b)*(q*r)≤p*q:=by
  have:=Nat.mul_le_mul_right q h1;have e:(1+b)*(q*r)=(1+b)*r*q:=by rw [Nat.mul_assoc,Nat.mul_comm q r]
  rw [e];exact this
 have h3:=Nat.mul_le_mul h2 h2;have h4:(((1+b)*(q*r)*((1+b)*(q*r)):Nat):Int)≤((p*q*(p*q):Nat):Int):=by omega
 have h5:=Int.mul_le_mul_of_nonneg_left h4 hH
 have e2:H*(((1+b)*(q*r)*((1+b)*(q*r)):Nat):Int)=H*((1+(b:Int))*(1+b))*((q*r:Nat)*(q*r:Nat)):=by
  simp only [Int.natCast_mul,Int.natCast_add,Int.natCast_one];grind
 rw [e2] at h5;exact Int.le_trans h5 (by rw [Int.natCast_mul];exact h)
theorem yhO {k:Nat} {q:Rat} {a b:Int} (hb:b≠0) (h:q*(b:Rat)=(a:Rat)) (fa:Fit k a) (fb:Fit k b):FitQ k q:=by
 have hbr:=yhw hb
 have e:q=(a:Rat) / (b:Rat):=by
  rw [← h,Rat.div_def,Rat.mul_assoc,Rat.mul_inv_cancel _ hbr,Rat.mul_one]
 rw [← Rat.divInt_eq_div] at e;rw [e];rcases Int.lt_or_gt_of_ne hb with h1|h1
 ·rw [← Rat.neg_divInt_neg]
  exact yby fa.neg fb.neg (by omega)
 exact yby fa fb h1
theorem Form.fit {H:Int} {x:Qn} {k:Nat} (h:Form H x) (hk:8*(H*H)<((256 ^ k:Nat):Int)):FitR k x:=by
 have hH:=h.pos;obtain⟨A,B,C,h0,h1,h2,h3,h4,h5,h6,h7,h8⟩:=h
 have h1H:H≤H*H:=by
  have:=Int.mul_le_mul_of_nonneg_left (show (1:Int)≤H by omega) (show 0≤H by omega)
  omega
 have aa:=ycj (a:=A) (b:=A) (A:=H) (C:=H) ⟨h1,h2⟩ ⟨h1,h2⟩;have bb:=ycj (a:=B) (b:=B) (A:=2*H) (C:=2*H) ⟨h3,h4⟩ ⟨h3,h4⟩;have ac:=ycj (a:=A) (b:=C) (A:=H) (C:=H) ⟨h1,h2⟩ ⟨h5,h6⟩;have e4:2*H*(2*H)=4*(H*H):=by grind
 rw [e4] at bb
 have fit:∀ z:Int,-(8*(H*H))≤z→z≤8*(H*H)→Fit k z:=fun z hz1 hz2=>by
  rw [Fit_iff];omega
 constructor
 ·refine yhO (a:=-B) (b:=2*A) (by omega) ?_ (fit _ (by omega) (by omega)) (fit _ (by omega) (by omega))
  rw [yak,Rat.intCast_neg];exact h7
 refine yhO (a:=B*B-4*(A*C)) (b:=4*(A*A)) ?_ ?_ (fit _ (by omega) (by omega)) (fit _ (by omega) (by omega))
 ·intro e
  rcases Int.mul_eq_zero.1 (show A*A=0 by omega) with h|h<;>exact h0 h
 rw [Rat.intCast_sub,yak,yak,yak,yak,yak];exact h8
theorem Ht.form {m n b:Nat} {x:Qn} (h:Ht (m:Rat) (n:Rat) (b:Rat) x) (hm:0<m) (hn:0<n) (hb:0<b):Form ((2*(n*(m*m)*(b*b)):Nat):Int) x:=by
 obtain⟨i,hi⟩:=h.m;obtain⟨j,hj⟩:=h.l;have hm':=yaz hm;have hn':=yaz hn
 have i1 : -((b:Int)*m)≤i∧i≤(b:Int)*m:=by
  constructor
  ·rw [← yaB,← hi,Rat.intCast_neg,yak,Rat.intCast_natCast,Rat.intCast_natCast]
   have:=yaq h.lo (Rat.le_of_lt hm');grind
  rw [← yaB,← hi,yak,Rat.intCast_natCast,Rat.intCast_natCast];exact yaq h.hi (Rat.le_of_lt hm')
 have j1:0≤j:=by
  rw [← yaB,← hj];exact yas h.ok.nn (Rat.le_of_lt hn')
 have j2:j≤(b:Int)*b*n:=by
  rw [← yaB,← hj,yak,yak,Rat.intCast_natCast,Rat.intCast_natCast];exact yaq h.rt (Rat.le_of_lt hn')
 rw [← Rat.intCast_natCast] at hi hj;have hm1:(1:Int)≤m:=by omega
 have hn1:(1:Int)≤n:=by omega
 have hb1:(1:Int)≤b:=by omega
 have e0:((2*(n*(m*m)*(b*b)):Nat):Int)=2*((n:Int)*(m*m)*(b*b)):=by simp only [Int.natCast_mul];rfl
 rw [e0];rw [← Rat.intCast_natCast] at hm' hn';clear e0 h;generalize (m:Int)=m at *;generalize (n:Int)=n at *;generalize (b:Int)=b at *;have mm1:1≤m*m:=by have:=Int.mul_le_mul hm1 hm1 (by omega) (by omega);omega
 have bb1:b≤b*b:=by have:=Int.mul_le_mul_of_nonneg_left hb1 (show 0≤b by omega);omega
 have nmm:1≤n*(m*m):=by have:=Int.mul_le_mul hn1 mm1 (by omega) (by omega);omega
 have mn0:0≤m*n:=Int.mul_nonneg (by omega) (by omega);have b1:=ycj i1 i1;have b2:=ycj (a:=i*i) (b:=n) (C:=n) b1 ⟨by omega,by omega⟩;have b3:=ycj (a:=j) (b:=m*m) (A:=b*b*n) (C:=m*m) ⟨by omega,j2⟩ ⟨by omega,by omega⟩;have b4:=ycj (a:=i) (b:=m*n) (A:=b*m) (C:=m*n) i1 ⟨by omega,by omega⟩;have w1:=Int.mul_le_mul_of_nonneg_left (show 1≤b*b by omega) (show 0≤n*(m*m) by omega)
 have w2:=Int.mul_le_mul_of_nonneg_left bb1 (show 0≤n*(m*m) by omega)
 have q1:b*m*(b*m)*n=n*(m*m)*(b*b):=by grind
 have q2:b*b*n*(m*m)=n*(m*m)*(b*b):=by grind
 have q3:b*m*(m*n)=n*(m*m)*b:=by grind
 rw [q1] at b2;rw [q2] at b3;rw [q3] at b4;refine ⟨n*(m*m),-(2*(i*(m*n))),i*i*n-j*(m*m),by omega,by omega,by omega,by omega,by omega,by omega,by omega,?_,?_⟩
 ·rw [Rat.intCast_neg,yak,yak,yak,yak,yak,← hi]
  have:((2:Int):Rat)=2:=rfl;rw [this];grind
 rw [Rat.intCast_neg,Rat.intCast_sub,yak,yak,yak,yak,yak,yak,yak,yak,← hi,← hj];have:((2:Int):Rat)=2:=rfl;rw [this];grind
end
end Go.Proofs.YtpgffjjpiafhpaaGreatDoor
