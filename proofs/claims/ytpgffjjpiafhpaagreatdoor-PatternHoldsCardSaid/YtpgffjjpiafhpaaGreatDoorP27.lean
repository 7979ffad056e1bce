/- Parts of a proof: Fo Fc. -/
import Derived.Test.YtpgffjjpiafhpaaGreatDoorP26
import Derived.Test.YtpgffjjpiafhpaaGreatDoorP15
import Derived.Test.YtpgffjjpiafhpaaGreatDoorP20
set_option linter.unusedVariables false
set_option linter.unusedSimpArgs false
set_option maxRecDepth 100000
set_option maxHeartbeats 8000000
namespace Go.Proofs.YtpgffjjpiafhpaaGreatDoor
open Go.RowKit Tryz
section
open Classical
theorem ycs (q:Rat):(rC q).all (·.oneCell')=true:=all_oneCell_toArray (by
 intro v hv;simp only [rcells,List.mem_cons,List.not_mem_nil,or_false] at hv
 rcases hv with rfl|rfl|rfl|rfl<;>rfl)
theorem StAt.kb {w U:World} {b o:Nat} {x:StV} (h:StAt w b o x) (hb:b<w.heap.size) (hU:Keep [] w U):∀ m:KW U,(loadVar 28 ⟨b,o+9,none⟩).run prog (Wk U m) = .ok (.agg (rC x.s.b)) (Wk U m):=fun m=>((h.keep (hU.block b hb (by simp))).keep (m.k.block b (Nat.lt_of_lt_of_le hb hU.size) (by simp))).lb
theorem StAt.ka {w U:World} {b o:Nat} {x:StV} (h:StAt w b o x) (hb:b<w.heap.size) (hU:Keep [] w U):∀ m:KW U,(loadVar 28 ⟨b,o+5,none⟩).run prog (Wk U m) = .ok (.agg (rC x.s.a)) (Wk U m):=fun m=>((h.keep (hU.block b hb (by simp))).keep (m.k.block b (Nat.lt_of_lt_of_le hb hU.size) (by simp))).la
theorem StAt.kg {w U:World} {b o:Nat} {x:StV} (h:StAt w b o x) (hb:b<w.heap.size) (hU:Keep [] w U):∀ m:KW U,(loadVar 28 ⟨b,o+1,none⟩).run prog (Wk U m) = .ok (.agg (rC x.s.g)) (Wk U m):=fun m=>((h.keep (hU.block b hb (by simp))).keep (m.k.block b (Nat.lt_of_lt_of_le hb hU.size) (by simp))).lg
noncomputable def ybG (s:Nat→St) (n i:Nat):List (Iv K):=livS s n (n-1-i)
theorem ygv (l:List StV) (hg:Good (stS l)) (h1:0<l.length) (h4:l.length≤4) (w:World) (sv:Value) (hr:StR w sv l) :
  Calls prog 40 #[sv] w (LivP w l.length (ybG (sAt (stS l)) l.length)):=by
 have HR:=jX hr;have HG:=jX hg;have HP:=jX (yea l hg h1 h4 w sv hr);obtain⟨ao,ac,rfl⟩:=hr.form;clear hr hg;have hn1:IntKind.i64.wrap ((l.length:Int)-1)=((l.length-1:Nat):Int):=by rw [show (l.length:Int)-1=((l.length-1:Nat):Int) by omega];exact IntWalk.i64_in _ (by omega)
 go_enter func40,ntmps40
 go_wp2_with fail;refine HP.out.mono ?_;rintro e w1 ⟨g0,vs,rfl,hb1,hg0,ho,hn,hF⟩;dsimp only;have HB1:=jX hb1;have HO1:=jX ho;have HF1:=jX hF;clear hb1 HP ho hF;go_upto_region 4 with (fail)
 go_wp2_with fail;go_loopw [22] (fun c wr=>∃ (k:Nat) (vs:List (Value × List (Iv K))),k≤l.length-1∧c = .int .i64 (k:Int)∧Below w.heap.size w wr∧OutB wr g0 vs∧vs.length=l.length∧∀ i (h:i<vs.length),vs[i].2=if l.length-1-k≤i then livS (sAt (stS l)) l.length (l.length-1-i) else rchS (sAt (stS l)) i) (fun c _=>l.length-(intOf c).toNat)
 case atStart =>
  refine ⟨0,vs,Nat.zero_le _,rfl,HB1.out,HO1.out,hn,fun i h=>?_⟩;rw [HF1.out i h];split
  ·have:i=l.length-1:=by omega
   subst this;rw [Nat.sub_self];rfl
  rfl
 case round =>
  obtain⟨k,vs,hk,rfl,hb,ho,hn,hF⟩:=hrel;have HB:=jX hb;have HO:=jX ho;have HF:=jX hF;clear hb ho hF HB1 HO1 HF1;by_cases hlt:k<l.length-1
  ·obtain⟨j,hj⟩:∃ j,j=l.length-2-k:=⟨_,rfl⟩
   obtain⟨m,hm⟩:∃ m,m=j+1:=⟨_,rfl⟩;have hw1:IntKind.i64.wrap ((l.length:Int)-2)=(l.length:Int)-2:=IntWalk.i64_in _ (by omega);have hw2:IntKind.i64.wrap ((l.length:Int)-2-(k:Int))=(j:Int):=by rw [show (l.length:Int)-2-(k:Int)=(j:Int) by omega];exact IntWalk.i64_in _ (by omega)
   have hw3:IntKind.i64.wrap ((j:Int)+1)=(m:Int):=by rw [show (j:Int)+1=(m:Int) by omega];exact IntWalk.i64_in _ (by omega)
   have hjl:j<l.length:=by omega
   have hml:m<l.length:=by omega
   have hj1:(j:Int)<(l.length:Int):=by omega
   have hm1:(m:Int)<(l.length:Int):=by omega
   have hj0:(0:Int)≤(j:Int):=by omega
   have hm0:(0:Int)≤(m:Int):=by omega
   have hkc:(k:Int)<((l.length-1:Nat):Int):=by omega
   have hjm:j≠m:=by omega
   have hl2:l.length-2-k=j:=hj.symm;have hl3:l.length-1-m=k:=by omega
   have hl4:¬ l.length-1-k≤j:=by omega
   have hl5:l.length-1-k≤m:=by omega
   have hl6:l.length-1-j=k+1:=by omega
   have Hj:=jX hj;have Hm:=jX hm;have Hl:=jX (And.intro hl2 (And.intro hl3 (And.intro hl4 (And.intro hl5 hl6))));clear hj hm hl2 hl3 hl4 hl5 hl6;obtain⟨g,o,rfl,hg,hat⟩:=StR.elem (HR.out.grow HB.out) m hml;obtain⟨gy,oy,hge,hgy,haty⟩:=StR.elem (HR.out.grow HB.out) j hjl;obtain⟨rfl,rfl⟩:gy=g∧oy=o:=by injection hge with hge;injection hge with h1 h2;exact ⟨h1.symm,h2.symm⟩
   have hsm:=ybF hml;have hsj:=ybF hjl;have HSab:=jX ((HG.out.pos _ (List.mem_map_of_mem (List.getElem_mem hml))).2);have HSt:=jX (StsOk.at _ HG.out.ok);generalize l[m]=x at *;generalize l[j]=y at *;obtain⟨p,hp⟩:∃ p,oy+m*13=p:=⟨_,rfl⟩;obtain⟨pj,hpj⟩:∃ pj,oy+j*13=pj:=⟨_,rfl⟩;rw [hp] at hat;rw [hpj] at haty;have HL:=jX (ydH wr gy p x hat);have Haty:=jX haty;clear hat haty hge hg;have HA1:=jX (fun u=>QAdd_c x.s.b y.s.g (by rw [← hsm];exact (HSt.out.b m).mono (by decide)) (by rw [← hsj];exact (HSt.out.g j).mono (by decide)) u);have HA2:=jX (fun u=>QAdd_c x.s.a y.s.g (by rw [← hsm];exact (HSt.out.a m).mono (by decide)) (by rw [← hsj];exact (HSt.out.g j).mono (by decide)) u);have HN1:=jX (QNeg_c (x.s.b+y.s.g));have HN2:=jX (QNeg_c (x.s.a+y.s.g));rw [yaw,yaw,yaw] at HA1 HA2;rw [yaw,yaw] at HN1 HN2;go_upto_region 8 with (fail)
   refine wp_region_lit ?_;refine' yab (v:=_) (by rfl) (?hc) (fun K hK=>?kc)
   case hc=>(go_simp;try rfl)
   go_simp;refine hK _ _ ?_;clear hK K;refine' yab (v:=_) (by rfl) (?hd) (fun K hK=>?kd)
   case hd=>(go_simp;try rfl)
   go_simp;refine hK _ _ ?_;clear hK K;refine' yab (v:=_) (by rfl) (?he) (fun K hK=>?ke)
   case he=>(go_simp;try rfl)
   go_simp;refine hK _ _ ?_;clear hK K;refine' yab (v:=_) (by rfl) (?hf) (fun K hK=>?kf)
   case hf=>(go_simp;try rfl)
   go_simp;refine hK _ _ ?_;clear hK K;refine yab (v:=.agg x.C) (by rfl) (yad _ _ ⟨gy,p,none⟩ _ rfl rfl HL.out) (fun K hK=>?_);go_simp;refine hK _ _ ?_;clear hK K;obtain⟨w3,gs,e1,e2,bgs,hgs,_,hk1⟩:=al1 wr (.cells #[.slice none 0 0,.bool false,.string ⟨#[]⟩,.bool false,.string ⟨#[]⟩,.bool false,.string ⟨#[]⟩,.bool false,.string ⟨#[]⟩,.bool false,.string ⟨#[]⟩,.bool false,.string ⟨#[]⟩] 65);refine yam (v:=.pointer (some ⟨wr.heap.size,0,none⟩)) (w':=wr.alloc (.cells #[.slice none 0 0,.bool false,.string ⟨#[]⟩,.bool false,.string ⟨#[]⟩,.bool false,.string ⟨#[]⟩,.bool false,.string ⟨#[]⟩,.bool false,.string ⟨#[]⟩,.bool false,.string ⟨#[]⟩] 65)) (by rfl) (al_st _ _ _ rfl) (fun K hK=>?_);rw [← e1,e2];clear e1;go_simp;refine hK _ _ ?_;clear hK K;refine yah (by rfl) _ _ _ rfl gs x.C rfl rfl _ _ bgs (by exact yeS x) (by rfl) x.ones (fun K hK=>?_);obtain⟨w4,e4,b4,k4⟩:=yai (cs:=x.C) bgs;rw [e4];go_simp;refine hK _ _ ?_;clear hK K e4 HL;have HW4:=jX (show Keep [] wr w4 from hk1.trans k4 (by simp;omega))
   have HB:=jX (HB.out.trans (Below.mono HW4.out.bz HB.out.size));have HO:=jX (HO.out.grow HW4.out.bz);have Haty:=jX (Haty.out.keep (HW4.out.block gy hgy (by simp)));have hgy:=Nat.lt_of_lt_of_le hgy HW4.out.size;have Bgs:=jX b4;clear HW4 k4 hk1 bgs b4 hgs;go_upto_region 9 with (fail)
   refine yaz 10 [(9,28)] (fun _=>.cells #[.bool false,.string ⟨#[]⟩,.bool false,.string ⟨#[]⟩] 28) (by kernel_rfl) (by kernel_rfl) (by kernel_rfl) (fun t ht ev w o ho=>by simp at ht;subst ht;exact ycj ev w o ho) ?_;intro U hU;have HX1:=jX ((ybl Bgs.out).kb (yaa Bgs.out) hU);have HX2:=jX (Haty.out.kg hgy hU);have Q1:Hid (∀ m:KW U,Calls prog 106 #[.agg (rC x.s.b),.agg (rC y.s.g)] (Wk U m) fun e w'=>e = .returned (.agg (rC (x.s.b+y.s.g)))∧∃ m,w'=Wk U m):=fun m=>qk m (HA1.out _);have Q2:Hid (∀ m:KW U,Calls prog 60 #[.agg (rC (x.s.b+y.s.g))] (Wk U m) fun e w'=>e = .returned (.agg (rC (-(x.s.b+y.s.g))))∧∃ m,w'=Wk U m):=fun m=>qk m (HN1.out _);simp only [List.map_cons,List.map_nil,unal,isAl,if_true,if_false,Bool.false_eq_true,List.take_succ_cons,List.take_zero]
   repeat (first
    | go_big_quiet_skip
    | (go_big_quiet_want;first
     | (refine yan _ _ _ (.agg (rC x.s.b)) rfl rfl (by rintro _ ⟨m,rfl⟩;exact HX1.out m) ?_;go_simp;go_big_quiet_on)|(refine yan _ _ _ (.agg (rC y.s.g)) rfl rfl (by rintro _ ⟨m,rfl⟩;exact HX2.out m) ?_;go_simp;go_big_quiet_on)
     | (go_big_quiet_op;first|go_big_quiet_on|go_big_quiet_call (first
      | (go_at_call 106;with_reducible exact (Q1).out _)|(go_at_call 60;with_reducible exact (Q2).out _)))))
   refine wpQuiet_nil ?_;intro p hp1 hp2 w5 hk_w5 hz;have bgx:=hz (9,28) (by simp);have hgx:=hp1 9 (by simp);simp only [List.map_cons,List.map_nil,pl,List.drop_succ_cons,List.drop_zero];dsimp only at bgx;generalize p 9=ge at *;have Bge:=jX bgx;have hge:=hgx;clear hz hp1 hp2 bgx hgx;clear Q1 Q2 hU HX1 HX2 p U;refine yah (by rfl) _ _ _ rfl ge (rC (-(x.s.b+y.s.g))) rfl rfl _ _ Bge.out (by exact q_size) (by rfl) (ycs _) (fun K hK=>?_);obtain⟨w6,e4,b4,k4⟩:=yai (cs:=rC (-(x.s.b+y.s.g))) Bge.out;rw [e4];go_simp;refine hK _ _ ?_;clear hK K e4 Bge;have Bge:=jX b4;have HKx:=jX (show Keep [] w4 w6 from hk_w5.trans k4 (by simp;omega))
   have HB:=jX (HB.out.trans (Below.mono HKx.out.bz HB.out.size));have HO:=jX (HO.out.grow HKx.out.bz);have Bgs:=jX (HKx.out.heap Bgs.out (by simp));have Haty:=jX (Haty.out.keep (HKx.out.block gy hgy (by simp)));have hgy:=Nat.lt_of_lt_of_le hgy HKx.out.size;clear k4 b4 hk_w5;go_upto_region 10 with (fail)
   refine yaz 10 [(10,28)] (fun _=>.cells #[.bool false,.string ⟨#[]⟩,.bool false,.string ⟨#[]⟩] 28) (by kernel_rfl) (by kernel_rfl) (by kernel_rfl) (fun t ht ev w o ho=>by simp at ht;subst ht;exact ycj ev w o ho) ?_;intro U hU;have HX1:=jX ((ybl Bgs.out).ka (yaa Bgs.out) hU);have HX2:=jX (Haty.out.kg hgy hU);have Q1:Hid (∀ m:KW U,Calls prog 106 #[.agg (rC x.s.a),.agg (rC y.s.g)] (Wk U m) fun e w'=>e = .returned (.agg (rC (x.s.a+y.s.g)))∧∃ m,w'=Wk U m):=fun m=>qk m (HA2.out _);have Q2:Hid (∀ m:KW U,Calls prog 60 #[.agg (rC (x.s.a+y.s.g))] (Wk U m) fun e w'=>e = .returned (.agg (rC (-(x.s.a+y.s.g))))∧∃ m,w'=Wk U m):=fun m=>qk m (HN2.out _);simp only [List.map_cons,List.map_nil,unal,isAl,if_true,if_false,Bool.false_eq_true,List.take_succ_cons,List.take_zero]
   repeat (first
    | go_big_quiet_skip
    | (go_big_quiet_want;first
     | (refine yan _ _ _ (.agg (rC x.s.a)) rfl rfl (by rintro _ ⟨m,rfl⟩;exact HX1.out m) ?_;go_simp;go_big_quiet_on)|(refine yan _ _ _ (.agg (rC y.s.g)) rfl rfl (by rintro _ ⟨m,rfl⟩;exact HX2.out m) ?_;go_simp;go_big_quiet_on)
     | (go_big_quiet_op;first|go_big_quiet_on|go_big_quiet_call (first
      | (go_at_call 106;with_reducible exact (Q1).out _)|(go_at_call 60;with_reducible exact (Q2).out _)))))
   refine wpQuiet_nil ?_;intro p hp1 hp2 w7 hk_w7 hz;have bgx:=hz (10,28) (by simp);have hgx:=hp1 10 (by simp);simp only [List.map_cons,List.map_nil,pl,List.drop_succ_cons,List.drop_zero];dsimp only at bgx;generalize p 10=gf at *;have Bgf:=jX bgx;have hgf:=hgx;clear hz hp1 hp2 bgx hgx;clear Q1 Q2 hU HX1 HX2 p U;refine yah (by rfl) _ _ _ rfl gf (rC (-(x.s.a+y.s.g))) rfl rfl _ _ Bgf.out (by exact q_size) (by rfl) (ycs _) (fun K hK=>?_);obtain⟨w8,e4,b4,k4⟩:=yai (cs:=rC (-(x.s.a+y.s.g))) Bgf.out;rw [e4];go_simp;refine hK _ _ ?_;clear hK K e4 Bgf;have Bgf:=jX b4;have HKx:=jX (show Keep [] w6 w8 from hk_w7.trans k4 (by simp;omega))
   have HB:=jX (HB.out.trans (Below.mono HKx.out.bz HB.out.size));have HO:=jX (HO.out.grow HKx.out.bz);have Bgs:=jX (HKx.out.heap Bgs.out (by simp));have Haty:=jX (Haty.out.keep (HKx.out.block gy hgy (by simp)));have hgy:=Nat.lt_of_lt_of_le hgy HKx.out.size;clear k4 b4 hk_w7;have Bge:=jX (HKx.out.heap Bge.out (by simp));clear HKx HA1 HA2 HN1 HN2 Haty Bgs;obtain⟨a1,c1,q1,hl1⟩:=HO.out.cell j (by omega);obtain⟨a2,c2,q2,hl2⟩:=HO.out.cell m (by omega);rw [HF.out j (by omega),if_neg Hl.out.2.2.1] at q1 hl1;rw [HF.out m (by omega),if_pos Hl.out.2.2.2.1,Hl.out.2.1] at q2 hl2;have fa:FitQ 24 (-(x.s.b+y.s.g)):=by rw [← hsm,← hsj];exact (yej (HSt.out.b m) (HSt.out.g j)).neg
   have fb:FitQ 24 (-(x.s.a+y.s.g)):=by rw [← hsm,← hsj];exact (yej (HSt.out.a m) (HSt.out.g j)).neg
   have fab : -(x.s.b+y.s.g) ≤ -(x.s.a+y.s.g):=by have:=HSab.out;grind
   have HFs:=(yha HSt.out.few h4 k (by omega)).swp (a:=-(x.s.b+y.s.g)) (b:=-(x.s.a+y.s.g));have HSw:=jX (fun u (h:Ls u [(.slice a2 (livS (sAt (stS l)) l.length k).length c2,livS (sAt (stS l)) l.length k)])=>h.sweep (k0:=253+25*k) (by omega) (yfL HSt.out h4 k (by omega)) fa fb fab (le10 HFs (yaq _ _ _) (by omega)))
   have hfin:combK 2 (rchS (sAt (stS l)) j) (swpK (-(x.s.b+y.s.g)) (-(x.s.a+y.s.g)) (livS (sAt (stS l)) l.length k))=livS (sAt (stS l)) l.length (k+1):=by
    show _=combK 2 _ _
    rw [Hl.out.1,← Hm.out,hsm,hsj]
   have hli:(combK 2 (rchS (sAt (stS l)) j) (swpK (-(x.s.b+y.s.g)) (-(x.s.a+y.s.g)) (livS (sAt (stS l)) l.length k))).length≤10000:=by
    rw [hfin];exact le10 (liv_few HSt.out.few h1 h4 (k+1) (by omega)) (ygU _) (by omega)
   have HIn:=jX (fun u a4 c4 (h:Ls u [(.slice a1 (rchS (sAt (stS l)) j).length c1,rchS (sAt (stS l)) j),(.slice a4 (swpK (-(x.s.b+y.s.g)) (-(x.s.a+y.s.g)) (livS (sAt (stS l)) l.length k)).length c4,swpK (-(x.s.b+y.s.g)) (-(x.s.a+y.s.g)) (livS (sAt (stS l)) l.length k))])=>h.inter (List.mem_cons_self ..) (List.mem_cons_of_mem _ (List.mem_cons_self ..)) hli);have Hfin:=jX hfin;have Hl1:=jX hl1;have Hl2:=jX hl2;clear fa fb fab HFs hfin hli hl1 hl2 HSab HSt hsm hsj;generalize livS (sAt (stS l)) l.length k=R at *;generalize rchS (sAt (stS l)) j=E at *;generalize swpK (-(x.s.b+y.s.g)) (-(x.s.a+y.s.g)) R=SW at *;obtain⟨IN,hIN⟩:∃ I,combK 2 E SW=I:=⟨_,rfl⟩;rw [hIN] at HIn Hfin;clear hIN;generalize -(x.s.b+y.s.g)=A1 at *;generalize -(x.s.a+y.s.g)=A2 at *;have HQ1:=jX q1;have HQ2:=jX q2;clear q1 q2;go_upto_region 11 with (fail)
   refine yao (S:=fun u=>Below w8.heap.size w8 u) 15 (by kernel_rfl) (by kernel_rfl) (fun _ _ d _ _ h=>by cases d<;>exact h) ?_;have hS0:=(Keep.drew [] w8).bz;generalize World.drew w8=u2 at *;refine' jG (v:=_) 0 hS0 (fun w hw=>?hsw0) (fun K hK=>?ksw0)
   case hsw0=>(go_simp;try rfl)
   go_simp;refine hK _ ?_;clear hK K;refine' jG (v:=_) 1 hS0 (fun w hw=>?hsw1) (fun K hK=>?ksw1)
   case hsw1=>(go_simp;try rfl)
   go_simp;refine hK _ ?_;clear hK K;refine' jG (v:=_) 2 hS0 (fun w hw=>?hsw2) (fun K hK=>?ksw2)
   case hsw2=>(go_simp;try rfl)
   go_simp;refine hK _ ?_;clear hK K;refine' jG (v:=_) 3 hS0 (fun w hw=>?hsw3) (fun K hK=>?ksw3)
   case hsw3=>(go_simp;try rfl)
   go_simp;refine hK _ ?_;clear hK K;refine' jG (v:=_) 4 hS0 (fun w hw=>?hsw4) (fun K hK=>?ksw4)
   case hsw4=>(go_simp;try rfl)
   go_simp;refine hK _ ?_;clear hK K;refine' jG (v:=_) 5 hS0 (fun w hw=>?hsw5) (fun K hK=>?ksw5)
   case hsw5=>(have q8:=(World.cell?_of_block (hw.block g0 (yaa HO.out.blk))).trans HQ1.out;go_simp;try rfl)
   go_simp;refine hK _ ?_;clear hK K;refine' jG (v:=_) 6 hS0 (fun w hw=>?hsw6) (fun K hK=>?ksw6)
   case hsw6=>(go_simp;try rfl)
   go_simp;refine hK _ ?_;clear hK K;refine' jG (v:=_) 7 hS0 (fun w hw=>?hsw7) (fun K hK=>?ksw7)
   case hsw7=>(go_simp;try rfl)
   go_simp;refine hK _ ?_;clear hK K;refine' jG (v:=_) 8 hS0 (fun w hw=>?hsw8) (fun K hK=>?ksw8)
   case hsw8=>(go_simp;try rfl)
   go_simp;refine hK _ ?_;clear hK K;refine' jG (v:=_) 9 hS0 (fun w hw=>?hsw9) (fun K hK=>?ksw9)
   case hsw9=>(go_simp;try rfl)
   go_simp;refine hK _ ?_;clear hK K;refine' jG (v:=_) 10 hS0 (fun w hw=>?hsw10) (fun K hK=>?ksw10)
   case hsw10=>(have q8:=(World.cell?_of_block (hw.block g0 (yaa HO.out.blk))).trans HQ2.out;go_simp;try rfl)
   go_simp;refine hK _ ?_;clear hK K;refine jG (v:=.agg (rC A1)) 11 hS0 (fun w hw=>yad _ _ ⟨ge,0,none⟩ _ rfl rfl (ybu ((hw.block ge (yaa Bge.out)).trans Bge.out))) (fun K hK=>?_);go_simp;refine hK _ ?_;clear hK K;refine jG (v:=.agg (rC A2)) 12 hS0 (fun w hw=>yad _ _ ⟨gf,0,none⟩ _ rfl rfl (ybu ((hw.block gf (yaa Bgf.out)).trans Bgf.out))) (fun K hK=>?_);go_simp;refine hK _ ?_;clear hK K;refine jP 13 (fun K hK=>?_);refine yaf 59 #[.slice a2 R.length c2,.agg (rC A1),.agg (rC A2)] (by go_simp) ?_;refine (HSw.out _ (Hl2.out.grow hS0)).mono ?_;rintro e u3 ⟨a4,c4,rfl,hb,hl4⟩;have hS0:=hS0.trans (Below.mono hb hS0.size);refine ⟨_,rfl,?_⟩;go_simp;refine hK _ _ hS0 ?_;clear hK K;refine jP 14 (fun K hK=>?_);refine yaf 108 #[.slice a1 E.length c1,.slice a4 SW.length c4] (by go_simp) ?_;refine (HIn.out _ a4 c4 ((Hl1.out.grow hS0).one hl4)).mono ?_;rintro e u4 ⟨a5,c5,rfl,hb,hl5⟩;have hS0:=hS0.trans (Below.mono hb hS0.size);refine ⟨_,rfl,?_⟩;go_simp;refine hK _ _ hS0 ?_;clear hK K;refine ⟨by kernel_rfl,?_⟩;simp only [List.drop_succ_cons,List.drop_zero];have HB8:=jX (HB.out.trans (Below.mono hS0 HB.out.size));have HO8:=jX (HO.out.grow hS0);have Hl5:=jX hl5.hd;clear hS0 hb hl5 hl4 HO HB Bge Bgf HQ1 HQ2 Hl1 Hl2 HSw HIn;obtain⟨W9,eW,ho9,hk9⟩:=HO8.out.set (by omega) j (by omega) Hl5.out;obtain⟨b0,d0,q0,_⟩:=HO8.out.cell j (by omega);have f0:=yak HO8.out.blk;have l0:=yaa HO8.out.blk;have HB9:=jX (HB8.out.trans (hk9.below (by simp;omega) HB8.out.size));have HO9:=jX ho9;clear hk9 ho9 HB8 HO8;go_wp2_with fail;go_roundw
   case rel =>
    have hjo:=Hj.out;refine ⟨k+1,_,by omega,congrArg (Value.int .i64) (by omega),HB9.out,HO9.out,by rw [List.length_set];exact hn,fun i hi=>?_⟩;by_cases hij:i=j
    ·subst hij
     rw [List.getElem_set_self,if_pos (by omega),Hl.out.2.2.2.2];exact Hfin.out
    rw [List.getElem_set_ne (by omega),HF.out i (by rw [List.length_set] at hi;exact hi)];by_cases hc:l.length-1-k≤i
    ·rw [if_pos hc,if_pos (by omega)]
    rw [if_neg hc,if_neg (by omega)]
   case measure=>simp [intOf];omega
  have hkn:k=l.length-1:=by omega
  have hF2:∀ i (h:i<vs.length),vs[i].2=ybG (sAt (stS l)) l.length i:=fun i hi=>by
   rw [HF.out i hi,if_pos (by omega)];rfl
  have HF2:=jX hF2;clear hF2 HF;have hkc:¬ ((k:Int)<((l.length-1:Nat):Int)):=by omega
  clear hkn;go_wp2_with fail;go_ret2
  exact ⟨g0,vs,rfl,HB.out,hg0,HO.out,hn,HF2.out⟩
end
section
open Go.ChangeShapes Go.WideShapes Go.ChangeAt
def PartsAt (w:World) (sv:Value) (l:List PartA):Prop :=
 (∃ a cap,sv = .slice a 0 cap∧l=[]) ∨
 ∃ lb lo cap,sv = .slice (some ⟨lb,lo,none⟩) l.length cap∧l.length≤maxLen∧∀ i (h:i<l.length),w.cell? ⟨lb,lo+i*2,none⟩=some (.int .u8 l[i].a)∧w.cell? ⟨lb,lo+i*2+1,none⟩=some (.int .u8 l[i].b)
def fvcells (s:Value) (e:EvA):List Value:=[s,.int .u8 e.o,.int .u8 e.g,.int .u8 e.w,.int .u8 e.r]
def EvsAt (w:World) (sv:Value) (l:List EvA):Prop :=
 (∃ a cap,sv = .slice a 0 cap∧l=[]) ∨
 ∃ lb lo cap,sv = .slice (some ⟨lb,lo,none⟩) l.length cap∧l.length≤maxLen∧∀ i (h:i<l.length),∃ s,(∀ j v,(fvcells s l[i])[j]? = some v→w.cell? ⟨lb,lo+i*5+j,none⟩=some v)∧PartsAt w s l[i].ps
theorem cells_Part:prog.cellsOf 135=2:=by kernel_rfl
theorem cells_Parts:prog.cellsOf 78=1:=by kernel_rfl
theorem cells_Event:prog.cellsOf 80=5:=by kernel_rfl
section
variable {H:Type} {enc:TypeId × Value→H} {w:World} {base:Nat} {held:Bool} {fuel:Nat}
theorem part_trod {cs:List Value} {x:DataW H × List MemPlace} (h:DataW.trod enc prog w base (fun _=>true) held fuel 135 cs=some x):∃ p:PartA,cs=[.int .u8 p.a,.int .u8 p.b]:=by
 obtain⟨xs,n,_,rfl,hl,hlen,hf⟩:=DataW.trod_array underlying135 h;rw [cells_Part] at hl
 match cs,hl with
 | [c0,c1],_ =>
  match xs,hlen with
  | [x0,x1],_ =>
   have h0:=hf 0 (by decide);have h1:=hf 1 (by decide);rw [cells_u8] at h0 h1;obtain⟨n0,e0,_,w0⟩:=DataW.trod_int underlying5 h0;obtain⟨n1,e1,_,w1⟩:=DataW.trod_int underlying5 h1;simp at e0 e1;subst e0 e1;have b0:=bounds_u8 w0;have b1:=bounds_u8 w1;refine ⟨⟨n0.toNat,n1.toNat,by omega,by omega⟩,?_⟩;simp [Int.toNat_of_nonneg b0.1,Int.toNat_of_nonneg b1.1]
theorem yhk {sv:Value} {x:DataW H × List MemPlace} (h:DataW.trod enc prog w base (fun _=>true) held fuel 78 [sv]=some x):∃ l,PartsAt w sv l:=by
 rcases Go.Deep.open_slice underlying78 h with ⟨hcs,_⟩|⟨a,len,cap,m,n,D,Pl,hcs,_,hl,hm,hmm,_,hel⟩
 ·simp at hcs;exact ⟨[],.inl ⟨none,0,hcs,rfl⟩⟩
 simp at hcs hmm;by_cases h0:len=0
 ·subst h0;exact ⟨[],.inl ⟨_,cap,hcs,rfl⟩⟩
 have hall:∀ i,i<cap→∃ p:PartA,w.cells? base (a.add (i*2)) 2=some [.int .u8 p.a,.int .u8 p.b]:=by
  intro i hi;obtain⟨cs',h1,h2⟩:=hel i (by omega);rw [cells_Part] at h1;obtain⟨p,rfl⟩:=part_trod h2;exact ⟨p,h1⟩
 obtain⟨s0,_⟩:=hall 0 (by omega)
 have hfun:∃ f:Nat→PartA,∀ i,i<cap→w.cells? base (a.add (i*2)) 2=some [.int .u8 (f i).a,.int .u8 (f i).b] :=
  ⟨fun i=>if h:i<cap then Classical.choose (hall i h) else s0,fun i hi=>by simp only [hi,dif_pos];exact Classical.choose_spec (hall i hi)⟩
 obtain⟨f,hf⟩:=hfun;have hc0:=(cells?_get (hf 0 (by omega))).2 0 (by omega);obtain⟨b,off,hp⟩:=ycO (v:=.int .u8 (f 0).a) (by simpa using hc0);have ha:a=⟨b,off,none⟩:=by unfold Addr.add at hp;simpa using hp
 subst ha;refine ⟨(List.range len).map f,.inr ⟨b,off,cap,by simpa using hcs,by simp;omega,fun i hi=>?_⟩⟩;have hil:i<len:=by simpa using hi
 have hc:=(cells?_get (hf i (by omega))).2;have c0:=hc 0 (by omega);have c1:=hc 1 (by omega);rw [ycb,ycb] at c0 c1;simp only [List.getElem_map,List.getElem_range];exact ⟨by simpa using c0,by simpa using c1⟩
theorem yhx {cs:List Value} {x:DataW H × List MemPlace} (h:DataW.trod enc prog w base (fun _=>true) held fuel 80 cs=some x):∃ (s:Value) (e:EvA),cs=fvcells s e∧PartsAt w s e.ps:=by
 obtain⟨xs,n,_,rfl,hl,hlen,hf⟩:=DataW.trod_struct underlying80 h;rw [cells_Event] at hl
 match cs,hl with
 | [c0,c1,c2,c3,c4],_ =>
  match xs,hlen with
  | [x0,x1,x2,x3,x4],_ =>
   have h0:DataW.trod enc prog w base (fun _=>true) held n 78 (([c0,c1,c2,c3,c4].drop 0).take (prog.cellsOf 78))=some x0:=hf 0 _ rfl;have h1:DataW.trod enc prog w base (fun _=>true) held n 5 (([c0,c1,c2,c3,c4].drop 1).take (prog.cellsOf 5))=some x1:=hf 1 _ rfl;have h2:DataW.trod enc prog w base (fun _=>true) held n 5 (([c0,c1,c2,c3,c4].drop 2).take (prog.cellsOf 5))=some x2:=hf 2 _ rfl;have h3:DataW.trod enc prog w base (fun _=>true) held n 5 (([c0,c1,c2,c3,c4].drop 3).take (prog.cellsOf 5))=some x3:=hf 3 _ rfl;have h4:DataW.trod enc prog w base (fun _=>true) held n 5 (([c0,c1,c2,c3,c4].drop 4).take (prog.cellsOf 5))=some x4:=hf 4 _ rfl;rw [cells_Parts] at h0;rw [cells_u8] at h1 h2 h3 h4;obtain⟨ps,hps⟩:=yhk (sv:=c0) (by simpa using h0);obtain⟨n1,e1,_,w1⟩:=DataW.trod_int underlying5 h1;obtain⟨n2,e2,_,w2⟩:=DataW.trod_int underlying5 h2;obtain⟨n3,e3,_,w3⟩:=DataW.trod_int underlying5 h3;obtain⟨n4,e4,_,w4⟩:=DataW.trod_int underlying5 h4;simp at e1 e2 e3 e4;subst e1 e2 e3 e4;have b1:=bounds_u8 w1;have b2:=bounds_u8 w2;have b3:=bounds_u8 w3;have b4:=bounds_u8 w4;refine ⟨c0,⟨ps,n1.toNat,n2.toNat,n3.toNat,n4.toNat,by omega,by omega,by omega,by omega⟩,?_,hps⟩;simp [fvcells,Int.toNat_of_nonneg b1.1,Int.toNat_of_nonneg b2.1,Int.toNat_of_nonneg b3.1,Int.toNat_of_nonneg b4.1]
theorem evs_trod {sv:Value} {x:DataW H × List MemPlace} (h:DataW.trod enc prog w base (fun _=>true) held fuel 60 [sv]=some x):∃ l,EvsAt w sv l:=by
 rcases Go.Deep.open_slice underlying60 h with ⟨hcs,_⟩|⟨a,len,cap,m,n,D,Pl,hcs,_,hl,hm,hmm,_,hel⟩
 ·simp at hcs;exact ⟨[],.inl ⟨none,0,hcs,rfl⟩⟩
 simp at hcs hmm;by_cases h0:len=0
 ·subst h0;exact ⟨[],.inl ⟨_,cap,hcs,rfl⟩⟩
 have hall:∀ i,i<cap→∃ p:Value × EvA,w.cells? base (a.add (i*5)) 5=some (fvcells p.1 p.2)∧PartsAt w p.1 p.2.ps:=by
  intro i hi;obtain⟨cs',h1,h2⟩:=hel i (by omega);rw [cells_Event] at h1;obtain⟨s,e,rfl,h3⟩:=yhx h2;exact ⟨(s,e),h1,h3⟩
 obtain⟨s0,_⟩:=hall 0 (by omega)
 have hfun:∃ f:Nat→Value × EvA,∀ i,i<cap→w.cells? base (a.add (i*5)) 5=some (fvcells (f i).1 (f i).2)∧PartsAt w (f i).1 (f i).2.ps :=
  ⟨fun i=>if h:i<cap then Classical.choose (hall i h) else s0,fun i hi=>by simp only [hi,dif_pos];exact Classical.choose_spec (hall i hi)⟩
 obtain⟨f,hf⟩:=hfun;have hc0:=(cells?_get (hf 0 (by omega)).1).2 0 (by omega);obtain⟨b,off,hp⟩:=ycO (v:=(f 0).1) (by simpa [fvcells] using hc0);have ha:a=⟨b,off,none⟩:=by unfold Addr.add at hp;simpa using hp
 subst ha;refine ⟨(List.range len).map fun i=>(f i).2,.inr ⟨b,off,cap,by simpa using hcs,by simp;omega,fun i hi=>?_⟩⟩;have hil:i<len:=by simpa using hi
 obtain⟨k1,k2⟩:=hf i (by omega);refine ⟨(f i).1,fun j v hj=>?_,?_⟩
 ·have hj5:j<5:=(List.getElem?_eq_some_iff.1 hj).1
  have hc:=(cells?_get k1).2 j hj5;rw [ycb,ycb] at hc;rw [hc]
  simpa using hj
 simp only [List.getElem_map,List.getElem_range];exact k2
end
def EvsArg (w:World) (v:Value):Prop:=∃ l,EvsAt w v l
theorem EvsArg_open {H:Type} {enc:TypeId × Value→H} {W:World} {v:Value} {base:Nat} {d:DataW H} {p:List MemPlace} (hv:Value.okWide prog W .any base 60 v)
  (h:∃ m,DataW.trod enc prog W 0 (fun _=>true) true m 60 v.cells.toList=some (d,p)):EvsArg W v:=by
 obtain⟨a,len,cap,rfl⟩:=okWide_slice underlying60 hv;obtain⟨m,hm⟩:=h;exact evs_trod hm
theorem PartsAt.form {w:World} {sv:Value} {l:List PartA} (h:PartsAt w sv l):∃ a c,sv = .slice a l.length c∧l.length≤maxLen:=by
 rcases h with ⟨a,cap,rfl,rfl⟩|⟨b,o,cap,rfl,hl,_⟩
 ·exact ⟨a,cap,by simp,by simp⟩
 exact ⟨_,_,rfl,hl⟩
theorem PartsAt.elem {w:World} {a:Option Addr} {n c:Nat} {l:List PartA} (h:PartsAt w (.slice a n c) l) (i:Nat) (hi:i<l.length) :
  ∃ b o,a=some ⟨b,o,none⟩∧b<w.heap.size∧w.cell? ⟨b,o+i*2,none⟩=some (.int .u8 l[i].a)∧w.cell? ⟨b,o+i*2+1,none⟩=some (.int .u8 l[i].b):=by
 rcases h with ⟨a',cap,e,rfl⟩|⟨b,o,cap,e,hl,hz⟩
 ·simp at hi
 have e1:a=some ⟨b,o,none⟩:=by injection e
 exact ⟨b,o,e1,World.block_lt_of_cell? w _ (hz i hi).1,hz i hi⟩
theorem PartsAt.later {w w':World} {v:Value} {l:List PartA} (h:PartsAt w v l) (hk:Below w.heap.size w w'):PartsAt w' v l:=by
 rcases h with h|⟨b,o,cap,rfl,hl,hz⟩
 ·exact .inl h
 refine .inr ⟨b,o,cap,rfl,hl,fun i hi=>?_⟩;have hb:=hk.block b (World.block_lt_of_cell? w _ (hz i hi).1);exact ⟨(World.cell?_of_block hb).trans (hz i hi).1,(World.cell?_of_block hb).trans (hz i hi).2⟩
theorem EvsAt.form {w:World} {sv:Value} {l:List EvA} (h:EvsAt w sv l):∃ a c,sv = .slice a l.length c∧l.length≤maxLen:=by
 rcases h with ⟨a,cap,rfl,rfl⟩|⟨b,o,cap,rfl,hl,_⟩
 ·exact ⟨a,cap,by simp,by simp⟩
 exact ⟨_,_,rfl,hl⟩
theorem EvsAt.elem {w:World} {a:Option Addr} {n c:Nat} {l:List EvA} (h:EvsAt w (.slice a n c) l) (i:Nat) (hi:i<l.length) :
  ∃ b o pa pc,a=some ⟨b,o,none⟩∧b<w.heap.size∧(∀ j v,(fvcells (.slice pa l[i].ps.length pc) l[i])[j]? = some v→w.cell? ⟨b,o+i*5+j,none⟩=some v)∧PartsAt w (.slice pa l[i].ps.length pc) l[i].ps:=by
 rcases h with ⟨a',cap,e,rfl⟩|⟨b,o,cap,e,hl,hz⟩
 ·simp at hi
 have e1:a=some ⟨b,o,none⟩:=by injection e
 obtain⟨s,h1,h2⟩:=hz i hi;obtain⟨pa,pc,rfl,_⟩:=h2.form;exact ⟨b,o,pa,pc,e1,World.block_lt_of_cell? w _ (h1 0 _ rfl),h1,h2⟩
theorem EvsAt.later {w w':World} {v:Value} {l:List EvA} (h:EvsAt w v l) (hk:Below w.heap.size w w'):EvsAt w' v l:=by
 rcases h with h|⟨b,o,cap,rfl,hl,hz⟩
 ·exact .inl h
 refine .inr ⟨b,o,cap,rfl,hl,fun i hi=>?_⟩;obtain⟨s,h1,h2⟩:=hz i hi;have hb:=hk.block b (World.block_lt_of_cell? w _ (h1 0 _ rfl));refine ⟨s,fun j v hj=>?_,h2.later hk⟩;exact (World.cell?_of_block hb).trans (h1 j v hj)
end
end Go.Proofs.YtpgffjjpiafhpaaGreatDoor
