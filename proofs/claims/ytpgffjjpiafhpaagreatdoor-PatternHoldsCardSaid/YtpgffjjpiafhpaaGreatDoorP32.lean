/- Parts of a proof: Fx Fy Fz Hr. -/
import Derived.Test.YtpgffjjpiafhpaaGreatDoorP31
set_option linter.unusedVariables false
set_option linter.unusedSimpArgs false
set_option maxRecDepth 100000
set_option maxHeartbeats 8000000
namespace Go.Proofs.YtpgffjjpiafhpaaGreatDoor
open Go.RowKit Tryz
section
open Classical
theorem LivT.split {w w':World} {n:Nat} {F:Nat→List (Iv K)} {e:Ending} (h:LivT w n F e w'):∃ g c vs,e = .returned (.slice (some ⟨g,0,none⟩) n c)∧Below w.heap.size w w'∧w.heap.size≤g∧OutT w' g vs∧vs.length=n∧∀ i (h:i<vs.length),vs[i].d=F i:=h
theorem rlive_c (l:List StV) (hg:Good (stS l)) (h1:0<l.length) (h4:l.length≤4) (w:World) (sv:Value) (hr:StR w sv l) :
  Calls prog 44 #[sv] w (LivT w l.length (ybG (sAt (stS l)) l.length)):=by
 have HR:=jX hr;have HG:=jX hg;have HP:=jX (yeD l hg h1 h4 w sv hr);obtain⟨ao,ac,rfl⟩:=hr.form;clear hr hg;have hw2:IntKind.i64.wrap ((l.length:Int)-2)=(l.length:Int)-2:=IntWalk.i64_in _ (by omega);go_enter func44,ntmps44
 go_wp2_with fail;refine HP.out.mono ?_;intro e w1 hp1;obtain⟨g0,c0,vs,rfl,hb1,hg0,ho,hn,hF⟩:=LivT.split hp1;dsimp only;have HB1:=jX hb1;have HO1:=jX ho;have HF1:=jX hF;have Hn:=jX hn;clear hb1 HP ho hF hp1 hn;go_wp2_with fail;go_loopw [4] (fun c wr=>∃ (k:Nat) (n:Int) (vs:List PerV),k≤l.length-1∧c = .int .i64 n∧n=(l.length:Int)-2-(k:Int)∧Below w.heap.size w wr∧OutT wr g0 vs∧vs.length=l.length∧∀ i (h:i<vs.length),vs[i].d=if l.length-1-k≤i then livS (sAt (stS l)) l.length (l.length-1-i) else rchS (sAt (stS l)) i) (fun c _=>(intOf c+1).toNat)
 case atStart =>
  refine ⟨0,_,vs,Nat.zero_le _,rfl,by simp,HB1.out,HO1.out,Hn.out,fun i h=>?_⟩;rw [HF1.out i h];split
  ·have:i=l.length-1:=by have:=Hn.out;omega
   subst this;rw [Nat.sub_self];rfl
  rfl
 case round =>
  obtain⟨k,n,vs,hk,rfl,hnn,hb,ho,hn,hF⟩:=hrel;have HB:=jX hb;have HO:=jX ho;have HF:=jX hF;have Hn:=jX hn;clear hb ho hF HB1 HO1 HF1 hn;by_cases hlt:k<l.length-1
  ·obtain⟨j,hj⟩:∃ j,j=l.length-2-k:=⟨_,rfl⟩
   obtain⟨m,hm⟩:∃ m,m=j+1:=⟨_,rfl⟩;obtain rfl:n=(j:Int):=by omega
   have hw3:IntKind.i64.wrap ((j:Int)+1)=(m:Int):=by rw [show (j:Int)+1=(m:Int) by omega];exact IntWalk.i64_in _ (by omega)
   have hw1:IntKind.i64.wrap ((j:Int)-1)=(j:Int)-1:=IntWalk.i64_in _ (by omega);have hjl:j<l.length:=by omega
   have hml:m<l.length:=by omega
   have hj1:(j:Int)<(l.length:Int):=by omega
   have hm1:(m:Int)<(l.length:Int):=by omega
   have hj0:(0:Int)≤(j:Int):=by omega
   have hm0:(0:Int)≤(m:Int):=by omega
   have hjm:j≠m:=by omega
   have hl2:l.length-2-k=j:=hj.symm;have hl3:l.length-1-m=k:=by omega
   have hl4:¬ l.length-1-k≤j:=by omega
   have hl5:l.length-1-k≤m:=by omega
   have hl6:l.length-1-j=k+1:=by omega
   have Hj:=jX hj;have Hm:=jX hm;have Hnn:=jX hnn;have Hl:=jX (And.intro hl2 (And.intro hl3 (And.intro hl4 (And.intro hl5 hl6))));clear hj hm hl2 hl3 hl4 hl5 hl6 hnn;obtain⟨g,o,rfl,hg,hat⟩:=StR.elem (HR.out.grow HB.out) m hml;obtain⟨gy,oy,hge,hgy,haty⟩:=StR.elem (HR.out.grow HB.out) j hjl;obtain⟨rfl,rfl⟩:gy=g∧oy=o:=by injection hge with hge;injection hge with h1 h2;exact ⟨h1.symm,h2.symm⟩
   have hsm:=ybF hml;have hsj:=ybF hjl;have HSab:=jX ((HG.out.pos _ (List.mem_map_of_mem (List.getElem_mem hml))).2);have HSt:=jX (StsOk.at _ HG.out.ok);generalize l[m]=x at *;generalize l[j]=y at *;obtain⟨p,hp⟩:∃ p,oy+m*13=p:=⟨_,rfl⟩;obtain⟨pj,hpj⟩:∃ pj,oy+j*13=pj:=⟨_,rfl⟩;rw [hp] at hat;rw [hpj] at haty;have Hat:=jX hat;have Haty:=jX haty;clear hat haty hge hg;have fyg:FitQ 8 y.s.g:=by rw [← hsj];exact HSt.out.g j
   have fxa:FitQ 8 x.s.a:=by rw [← hsm];exact HSt.out.a m
   have fxb:FitQ 8 x.s.b:=by rw [← hsm];exact HSt.out.b m
   have HA1:=jX (fun u=>QAdd_c y.s.g x.s.a (fyg.mono (by decide)) (fxa.mono (by decide)) u);have HA2:=jX (fun u=>QAdd_c y.s.g x.s.b (fyg.mono (by decide)) (fxb.mono (by decide)) u);have HN1:=jX (QNeg_c (y.s.g+x.s.a));have HN2:=jX (QNeg_c (y.s.g+x.s.b));rw [yaw,yaw,yaw] at HA1 HA2;rw [yaw,yaw] at HN1 HN2;have fa:FitQ 24 (-(y.s.g+x.s.a)):=(yej fyg fxa).neg;have fb:FitQ 24 (-(y.s.g+x.s.b)):=(yej fyg fxb).neg;have fab : -(y.s.g+x.s.b) ≤ -(y.s.g+x.s.a):=by have:=HSab.out;grind
   have HFs:=(yha HSt.out.few h4 k (by omega)).swp (a:=-(y.s.g+x.s.b)) (b:=-(y.s.g+x.s.a));have HSw:=jX (fun u v (h:Ls u [(v,livS (sAt (stS l)) l.length k)])=>h.rsweep (k0:=253+25*k) (by omega) (yfL HSt.out h4 k (by omega)) fb fa fab (le10 HFs (yaq _ _ _) (by omega)))
   have hfin:combK 2 (rchS (sAt (stS l)) j) (swpK (-(y.s.g+x.s.b)) (-(y.s.g+x.s.a)) (livS (sAt (stS l)) l.length k))=livS (sAt (stS l)) l.length (k+1):=by
    show _=combK 2 _ _
    rw [Hl.out.1,← Hm.out,hsm,hsj,Rat.add_comm x.s.b,Rat.add_comm x.s.a]
   have HIn:=jX (fun u a b (h:Ls u [(a,rchS (sAt (stS l)) j)]) (h3:Ls u [(b,swpK (-(y.s.g+x.s.b)) (-(y.s.g+x.s.a)) (livS (sAt (stS l)) l.length k))])=>by
    have:=h.interT h3 (by rw [hfin];exact le10 (liv_few HSt.out.few h1 h4 (k+1) (by omega)) (ygU _) (by omega));rw [hfin] at this
    exact this)
   have hvj:j<vs.length:=by have:=Hn.out;omega
   have hvm:m<vs.length:=by have:=Hn.out;omega
   have qj:=HO.out.cell j hvj;have qm:=HO.out.cell m hvm;unfold PerV.v at qj qm;rw [HF.out j hvj,if_neg Hl.out.2.2.1] at qj;rw [HF.out m hvm,if_pos Hl.out.2.2.2.1,Hl.out.2.1] at qm;have HQj:=jX qj;have HQm:=jX qm;clear fyg fxa fxb fa fb fab HFs hfin qj qm HSt HSab hsm hsj;generalize vs[j].a=ja at *;generalize vs[j].c=jc at *;generalize vs[m].a=ma at *;generalize vs[m].c=mc at *;generalize livS (sAt (stS l)) l.length k=R at *;generalize rchS (sAt (stS l)) j=E at *;generalize swpK (-(y.s.g+x.s.b)) (-(y.s.g+x.s.a)) R=SW at *;obtain⟨RK,hRK⟩:∃ RK,livS (sAt (stS l)) l.length (k+1)=RK:=⟨_,rfl⟩;rw [hRK] at HIn;have HFin:=jX hRK;clear hRK;generalize -(y.s.g+x.s.a)=NA at *;generalize -(y.s.g+x.s.b)=NB at *;generalize y.s.g+x.s.a=QA at *;generalize y.s.g+x.s.b=QB at *;have hv1:(j:Int)<(vs.length:Int):=by omega
   have hv2:(m:Int)<(vs.length:Int):=by omega
   go_upto_region 5 with (fail)
   refine yaz 26 [(5,28),(6,28)] (fun _=>.cells #[.bool false,.string ⟨#[]⟩,.bool false,.string ⟨#[]⟩] 28) (by kernel_rfl) (by kernel_rfl) (by kernel_rfl) (fun t ht ev w o ho=>by simp at ht;subst ht;exact ycj ev w o ho) ?_;intro U hU;have HX1:=jX (Haty.out.kg hgy hU);have HX2:=jX (Hat.out.ka hgy hU);have HX3:=jX (Hat.out.kb hgy hU);have Q1:Hid (∀ m:KW U,Calls prog 106 #[.agg (rC y.s.g),.agg (rC x.s.a)] (Wk U m) fun e w'=>e = .returned (.agg (rC QA))∧∃ m,w'=Wk U m):=fun m=>qk m (HA1.out _);have Q2:Hid (∀ m:KW U,Calls prog 106 #[.agg (rC y.s.g),.agg (rC x.s.b)] (Wk U m) fun e w'=>e = .returned (.agg (rC QB))∧∃ m,w'=Wk U m):=fun m=>qk m (HA2.out _);simp only [List.map_cons,List.map_nil,unal,isAl,if_true,if_false,Bool.false_eq_true,List.take_succ_cons,List.take_zero]
   repeat (first
    | go_big_quiet_skip
    | (go_big_quiet_want;first
     | (refine yan _ _ _ (.agg (rC y.s.g)) rfl rfl (by rintro _ ⟨m,rfl⟩;exact HX1.out m) ?_;go_simp;go_big_quiet_on)|(refine yan _ _ _ (.agg (rC x.s.a)) rfl rfl (by rintro _ ⟨m,rfl⟩;exact HX2.out m) ?_;go_simp;go_big_quiet_on)|(refine yan _ _ _ (.agg (rC x.s.b)) rfl rfl (by rintro _ ⟨m,rfl⟩;exact HX3.out m) ?_;go_simp;go_big_quiet_on)
     | (go_big_quiet_op;first|go_big_quiet_on|go_big_quiet_call (first
      | (go_at_call 106;with_reducible exact (Q1).out _)|(go_at_call 106;with_reducible exact (Q2).out _)))))
   refine wpQuiet_nil ?_;intro p hp1 hp2 w3 hk3 hz;have b5:=hz (5,28) (by simp);have b6:=hz (6,28) (by simp);have n56:p 5≠p 6:=fun h=>absurd (hp2 5 (by simp) 6 (by simp) h) (by decide);have h5:=hp1 5 (by simp);have h6:=hp1 6 (by simp);simp only [List.map_cons,List.map_nil,pl,List.drop_succ_cons,List.drop_zero];dsimp only at b5 b6;generalize p 5=g5 at *;generalize p 6=g6 at *;clear hz hp1 hp2 Q1 Q2 HX1 HX2 HX3 hU U p;refine yah (by rfl) _ _ _ rfl g5 (rC QA) rfl rfl _ _ b5 (by exact q_size) (by rfl) (ycs _) (fun K hK=>?_);obtain⟨w4,e4,b54,k4⟩:=yai (cs:=rC QA) b5;rw [e4];go_simp;refine hK _ _ ?_;clear hK K e4;have b64:=k4.heap b6 (by simp;exact fun h=>n56 h.symm);refine yah (by rfl) _ _ _ rfl g6 (rC QB) rfl rfl _ _ b64 (by exact q_size) (by rfl) (ycs _) (fun K hK=>?_);obtain⟨w5,e5,b65,k5⟩:=yai (cs:=rC QB) b64;rw [e5];go_simp;refine hK _ _ ?_;clear hK K e5;have B5:=jX (k5.heap b54 (by simp;exact n56));have B6:=jX b65;have hk4:=show Keep [] wr w4 from hk3.trans k4 (by simp;exact h5)
   have hbb:=(show Keep [] wr w5 from hk4.trans k5 (by simp;exact h6)).bz
   have HB:=jX (HB.out.trans (Below.mono hbb HB.out.size));have HQj:=jX (And.intro ((World.cell?_of_block (hbb.block g0 HO.out.lt)).trans HQj.out.1) (HQj.out.2.grow hbb));have HQm:=jX (And.intro ((World.cell?_of_block (hbb.block g0 HO.out.lt)).trans HQm.out.1) (HQm.out.2.grow hbb));have HO:=jX (HO.out.grow hbb);clear hbb hk4 k4 k5 b5 b6 b54 b64 b65 n56 hk3 h5 h6 HA1 HA2 Haty Hat;go_upto_region 6 with (fail)
   refine yao (S:=fun u=>Below w5.heap.size w5 u) 17 (by kernel_rfl) (by kernel_rfl) (fun _ _ d _ _ h=>by cases d<;>exact h) ?_;have hS0:=(Keep.drew [] w5).bz;generalize World.drew w5=u2 at *;refine' jG (v:=_) 0 hS0 (fun w hw=>?hla0) (fun K hK=>?kla0)
   case hla0=>(go_simp;try rfl)
   go_simp;refine hK _ ?_;clear hK K;refine' jG (v:=_) 1 hS0 (fun w hw=>?hla1) (fun K hK=>?kla1)
   case hla1=>(go_simp;try rfl)
   go_simp;refine hK _ ?_;clear hK K;refine' jG (v:=_) 2 hS0 (fun w hw=>?hla2) (fun K hK=>?kla2)
   case hla2=>(go_simp;try rfl)
   go_simp;refine hK _ ?_;clear hK K;refine' jG (v:=_) 3 hS0 (fun w hw=>?hla3) (fun K hK=>?kla3)
   case hla3=>(go_simp;try rfl)
   go_simp;refine hK _ ?_;clear hK K;refine' jG (v:=_) 4 hS0 (fun w hw=>?hla4) (fun K hK=>?kla4)
   case hla4=>(go_simp;try rfl)
   go_simp;refine hK _ ?_;clear hK K;refine' jG (v:=_) 5 hS0 (fun w hw=>?hla5) (fun K hK=>?kla5)
   case hla5=>(have q:=(World.cell?_of_block (hw.block g0 HO.out.lt)).trans HQj.out.1;go_simp;try rfl)
   go_simp;refine hK _ ?_;clear hK K;refine' jG (v:=_) 6 hS0 (fun w hw=>?hla6) (fun K hK=>?kla6)
   case hla6=>(go_simp;try rfl)
   go_simp;refine hK _ ?_;clear hK K;refine' jG (v:=_) 7 hS0 (fun w hw=>?hla7) (fun K hK=>?kla7)
   case hla7=>(go_simp;try rfl)
   go_simp;refine hK _ ?_;clear hK K;refine' jG (v:=_) 8 hS0 (fun w hw=>?hla8) (fun K hK=>?kla8)
   case hla8=>(go_simp;try rfl)
   go_simp;refine hK _ ?_;clear hK K;refine' jG (v:=_) 9 hS0 (fun w hw=>?hla9) (fun K hK=>?kla9)
   case hla9=>(go_simp;try rfl)
   go_simp;refine hK _ ?_;clear hK K;refine' jG (v:=_) 10 hS0 (fun w hw=>?hla10) (fun K hK=>?kla10)
   case hla10=>(have q:=(World.cell?_of_block (hw.block g0 HO.out.lt)).trans HQm.out.1;go_simp;try rfl)
   go_simp;refine hK _ ?_;clear hK K;refine jG (v:=.agg (rC QB)) 11 hS0 (fun w hw=>yad _ _ ⟨g6,0,none⟩ _ rfl rfl (ybu ((hw.block g6 (yaa B6.out)).trans B6.out))) (fun K hK=>?_);go_simp;refine hK _ ?_;clear hK K;refine jG (v:=.agg (rC QA)) 13 hS0 (fun w hw=>yad _ _ ⟨g5,0,none⟩ _ rfl rfl (ybu ((hw.block g5 (yaa B5.out)).trans B5.out))) (fun K hK=>?_);go_simp;refine hK _ ?_;clear hK K;refine jP 12 (fun K hK=>?_);refine yaf 60 #[.agg (rC QB)] (by go_simp) ?_;refine (HN2.out _).mono ?_;rintro e u3 ⟨rfl,hb⟩;have hb:=hb.bz;have hS0:=hS0.trans (Below.mono hb hS0.size);refine ⟨_,rfl,?_⟩;go_simp;refine hK _ _ hS0 ?_;clear hK K hb;refine jP 14 (fun K hK=>?_);refine yaf 60 #[.agg (rC QA)] (by go_simp) ?_;refine (HN1.out _).mono ?_;rintro e u4 ⟨rfl,hb⟩;have hb:=hb.bz;have hS0:=hS0.trans (Below.mono hb hS0.size);refine ⟨_,rfl,?_⟩;go_simp;refine hK _ _ hS0 ?_;clear hK K hb;refine jP 15 (fun K hK=>?_);refine yaf 61 #[.slice ma R.length mc,.agg (rC NB),.agg (rC NA)] (by go_simp) ?_;refine (HSw.out _ _ (HQm.out.2.grow hS0)).mono ?_;rintro e u5 ⟨a5,c5,rfl,hb,hl5,_⟩;have hS0:=hS0.trans (Below.mono hb hS0.size);refine ⟨_,rfl,?_⟩;go_simp;refine hK _ _ hS0 ?_;clear hK K;refine jP 16 (fun K hK=>?_);refine yaf 108 #[.slice ja E.length jc,.slice a5 SW.length c5] (by go_simp) ?_;refine (HIn.out _ _ _ (HQj.out.2.grow hS0) hl5).mono ?_;rintro e u6 ⟨a6,c6,rfl,hb,hl6,ht6⟩;have hS0:=hS0.trans (Below.mono hb hS0.size);refine ⟨_,rfl,?_⟩;go_simp;refine hK _ _ hS0 ?_;clear hK K;refine ⟨by kernel_rfl,?_⟩;simp only [List.drop_succ_cons,List.drop_zero];have HB8:=jX (HB.out.trans (Below.mono hS0 HB.out.size));have HO8:=jX (HO.out.grow hS0);have HD:=jX (And.intro hl6 ht6);clear hS0 hb hl6 ht6 hl5 HSw HIn HN1 HN2 HQj HQm B5 B6 HB HO;obtain⟨W9,eW,ho9,hk9⟩:=HO8.out.set j hvj (x:=⟨a6,c6,RK⟩) HD.out;rw [show PerV.v ⟨a6,c6,RK⟩ = .slice a6 RK.length c6 from rfl] at eW
   obtain⟨cur,hcur,_⟩:=HO8.out.blk;have q0:=(HO8.out.cell j hvj).1;unfold PerV.v at q0;have f0:=yak hcur;have l0:=yaa hcur;have HB9:=jX (HB8.out.trans (hk9.below (by simp;omega) HB8.out.size));have HO9:=jX ho9;clear hk9 ho9 HB8 HO8 HD hcur;go_wp2_with fail;go_roundw
   case rel =>
    have hjo:=Hj.out;refine ⟨k+1,_,_,by omega,rfl,by omega,HB9.out,HO9.out,by rw [List.length_set];exact Hn.out,fun i hi=>?_⟩;by_cases hij:i=j
    ·subst hij
     rw [List.getElem_set_self,if_pos (by omega),Hl.out.2.2.2.2];exact HFin.out.symm
    rw [List.getElem_set_ne (by omega),HF.out i (by rw [List.length_set] at hi;exact hi)];by_cases hc:l.length-1-k≤i
    ·rw [if_pos hc,if_pos (by omega)]
    rw [if_neg hc,if_neg (by omega)]
   case measure=>simp [intOf]
  have hkn:k=l.length-1:=by omega
  obtain rfl:n = -1:=by omega
  have hF2:∀ i (h:i<vs.length),vs[i].d=ybG (sAt (stS l)) l.length i:=fun i hi=>by
   have:=Hn.out;rw [HF.out i hi,if_pos (by omega)];rfl
  have HF2:=jX hF2;clear hF2 HF hkn hnn;go_wp2_with fail;go_ret
  exact ⟨g0,c0,vs,rfl,HB.out,hg0,HO.out,Hn.out,HF2.out⟩
end
section
open Classical
def RPost (w:World) (n:Nat) (F:Nat→List (Iv K)) (e:Ending) (w':World):Prop:=∃ g c,e = .returned (.tuple #[.slice (some ⟨g,0,none⟩) n c,.int .i64 0])∧RowL w' (.slice (some ⟨g,0,none⟩) n c) n F∧Below w.heap.size w w'
theorem LivP.row {w:World} {n:Nat} {F:Nat→List (Iv K)} {f:Nat} {args:Array Value} (h:Calls prog f args w (LivP w n F)):Calls prog f args w (RPost w n F) :=
 h.mono fun e w' ⟨g,vs,he,hb,_,ho,hn,hF⟩=>by
  have:=ho.rowL hF n;rw [hn] at this;exact ⟨g,n,he,this,hb⟩
def DPost (w:World) (n:Nat) (F:Nat→List (Iv K)) (e:Ending) (w':World):Prop:=∃ g c,e = .returned (.slice (some ⟨g,0,none⟩) n c)∧RowL w' (.slice (some ⟨g,0,none⟩) n c) n F∧Below w.heap.size w w'
theorem LivT.row {w:World} {n:Nat} {F:Nat→List (Iv K)} {f:Nat} {args:Array Value} (h:Calls prog f args w (LivT w n F)):Calls prog f args w (DPost w n F) :=
 h.mono fun e w' ⟨g,c,vs,he,hb,_,ho,hn,hF⟩=>by
  have:=ho.rowL hF c;rw [hn] at this;exact ⟨g,c,he,this,hb⟩
theorem RowL.get {w:World} {g n c:Nat} {F:Nat→List (Iv K)} (h:RowL w (.slice (some ⟨g,0,none⟩) n c) n F) {i:Nat} (hi:i<n):g<w.heap.size∧∃ a d,w.cell? ⟨g,i,none⟩=some (.slice a (F i).length d)∧Ls w [(.slice a (F i).length d,F i)]:=by
 obtain⟨g',c',e,h2,h3⟩:=h;injection e with e _ _;injection e with e;injection e with e _ _;subst e;exact ⟨h2,h3 i hi⟩
theorem yfn (n:Nat) (hn:n≤16) (F:Nat→List (Iv K)) (w:World) (g c g' c':Nat) (hr:RowL w (.slice (some ⟨g,0,none⟩) n c) n F) (hs:RowL w (.slice (some ⟨g',0,none⟩) n c') n F) :
  Calls prog 45 #[.slice (some ⟨g,0,none⟩) n c,.slice (some ⟨g',0,none⟩) n c'] w (BPost w true):=by
 have HR:=jX hr;have HS:=jX hs;clear hr hs;go_enter func45,ntmps45
 go_wp2_with fail;go_loopw [5] (fun c wr=>∃ k:Nat,k≤n∧c = .int .i64 (k:Int)∧Below w.heap.size w wr) (fun c _=>n-(intOf c).toNat)
 case atStart=>exact ⟨0,Nat.zero_le _,rfl,Below.refl _ _⟩
 case round =>
  obtain⟨k,hk,rfl,hb⟩:=hrel;have HB:=jX hb;clear hb;by_cases hlt:k<n
  ·obtain⟨hg,a,d,q,hl⟩:=(HR.out.grow HB.out).get hlt
   obtain⟨hg',a',d',q',hl'⟩:=(HS.out.grow HB.out).get hlt;have hkc:(k:Int)<(n:Int):=by omega
   have HL:=jX hl;have HL':=jX hl';have Q:=jX q;have Q':=jX q';clear hl hl' q q';generalize F k=l at *;go_upto_region 6 with (fail)
   refine yao (S:=fun u=>Below wr.heap.size wr u) 9 (by kernel_rfl) (by kernel_rfl) (fun _ _ d _ _ h=>by cases d<;>exact h) ?_;have hS0:=(Keep.drew [] wr).bz;generalize World.drew wr=u2 at *;refine' jG (v:=_) 0 hS0 (fun w hw=>?hsa0) (fun K hK=>?ksa0)
   case hsa0=>(go_simp;try rfl)
   go_simp;refine hK _ ?_;clear hK K;refine' jG (v:=_) 1 hS0 (fun w hw=>?hsa1) (fun K hK=>?ksa1)
   case hsa1=>(go_simp;try rfl)
   go_simp;refine hK _ ?_;clear hK K;refine' jG (v:=_) 2 hS0 (fun w hw=>?hsa2) (fun K hK=>?ksa2)
   case hsa2=>(go_simp;try rfl)
   go_simp;refine hK _ ?_;clear hK K;refine' jG (v:=_) 3 hS0 (fun w hw=>?hsa3) (fun K hK=>?ksa3)
   case hsa3=>(have q:=(World.cell?_of_block (hw.block g hg)).trans Q.out;go_simp;try rfl)
   go_simp;refine hK _ ?_;clear hK K;refine' jG (v:=_) 4 hS0 (fun w hw=>?hsa4) (fun K hK=>?ksa4)
   case hsa4=>(go_simp;try rfl)
   go_simp;refine hK _ ?_;clear hK K;refine' jG (v:=_) 5 hS0 (fun w hw=>?hsa5) (fun K hK=>?ksa5)
   case hsa5=>(go_simp;try rfl)
   go_simp;refine hK _ ?_;clear hK K;refine' jG (v:=_) 6 hS0 (fun w hw=>?hsa6) (fun K hK=>?ksa6)
   case hsa6=>(go_simp;try rfl)
   go_simp;refine hK _ ?_;clear hK K;refine' jG (v:=_) 7 hS0 (fun w hw=>?hsa7) (fun K hK=>?ksa7)
   case hsa7=>(have q:=(World.cell?_of_block (hw.block g' hg')).trans Q'.out;go_simp;try rfl)
   go_simp;refine hK _ ?_;clear hK K;refine jP 8 (fun K hK=>?_);refine yaf 20 #[.slice a l.length d,.slice a' l.length d'] (by go_simp) ?_;refine ((HL.out.grow hS0).peq_t (HL'.out.grow hS0)).mono ?_;rintro e u3 ⟨rfl,hb⟩;have hS0:=hS0.trans (Below.mono hb hS0.size);refine ⟨_,rfl,?_⟩;go_simp;refine hK _ _ hS0 ?_;clear hK K;refine ⟨by kernel_rfl,?_⟩;simp only [List.drop_succ_cons,List.drop_zero];have HB:=jX (HB.out.trans (Below.mono hS0 HB.out.size));clear hS0 hb;go_wp2_with fail;go_roundw
   case rel=>exact ⟨k+1,by omega,congrArg (Value.int .i64) (by omega),HB.out⟩
   case measure=>simp [intOf];omega
  have hkc:¬ ((k:Int)<(n:Int)):=by omega
  go_wp2_with fail;go_ret
  exact ⟨rfl,HB.out⟩
theorem Occurs_c (l:List StV) (hg:Good (stS l)) (h1:0<l.length) (h4:l.length≤4) (w:World) (sv:Value) (hr:StR w sv l) :
  Calls prog 42 #[sv] w fun e w'=>e = .returned (.tuple #[.bool (decide (0<(ybG (sAt (stS l)) l.length 0).length)),.int .i64 0])∧Below w.heap.size w w':=by
 have HP:=jX (LivP.row (ygv l hg h1 h4 w sv hr));obtain⟨ao,ac,rfl⟩:=hr.form;generalize ybG (sAt (stS l)) l.length=F at *;clear hr hg;go_enter func42,ntmps42
 go_wp2_with fail;refine HP.out.mono ?_;rintro e w1 ⟨g,c,rfl,hrow,hb⟩;dsimp only;obtain⟨hgl,a,d,q,_⟩:=hrow.get h1;have HB:=jX hb;have hi:(0:Int)<(l.length:Int):=by omega
 clear hrow hb HP;obtain⟨l0,hl0⟩:∃ l0,F 0=l0:=⟨_,rfl⟩;rw [hl0] at q;have Hl0:=jX hl0;clear hl0;go_wp2_with fail;go_ret2
 exact ⟨by rw [Hl0.out];rfl,HB.out⟩
theorem Ends_c (l:List StV) (hg:Good (stS l)) (h1:0<l.length) (h4:l.length≤4) (w:World) (sv:Value) (hr:StR w sv l) (E:List (Iv K)) (hE:E=(ybG (sAt (stS l)) l.length (l.length-1)).map (mvI (sAt (stS l) (l.length-1)).g)) :
  Calls prog 43 #[sv] w fun e w'=>∃ a c,e = .returned (.tuple #[.slice a E.length c,.int .i64 0])∧Below w.heap.size w w'∧Ls w' [(.slice a E.length c,E)]:=by
 have HP:=jX (LivP.row (ygv l hg h1 h4 w sv hr));have HR:=jX hr;obtain⟨ao,ac,rfl⟩:=hr.form;have HSt:=jX (StsOk.at _ hg.ok)
 have hsm:∀ i∈ybG (sAt (stS l)) l.length (l.length-1),SmI 253 i:=by
  have:=yfL HSt.out h4 0 (by omega);unfold ybG;rw [Nat.sub_self];exact this
 have hgq:FitQ 24 (sAt (stS l) (l.length-1)).g:=ycG (HSt.out.g _);have HSh:=jX (fun u v (h:Ls u [(v,ybG (sAt (stS l)) l.length (l.length-1))])=>h.shift (List.mem_singleton.2 rfl) (k:=253) (by omega) hsm hgq);rw [← hE] at HSh;obtain⟨m,hm⟩:∃ m,l.length-1=m:=⟨_,rfl⟩;rw [hm] at HSh;have hml:m<l.length:=by omega
 rw [ybF hml,yaw] at HSh;have hw:IntKind.i64.wrap ((l.length:Int)-1)=(m:Int):=by rw [show (l.length:Int)-1=(m:Int) by omega];exact IntWalk.i64_in _ (by omega)
 have hm1:(m:Int)<(l.length:Int):=by omega
 have hm0:(0:Int)≤(m:Int):=by omega
 clear hr hg hE hsm hgq HSt hm;generalize ybG (sAt (stS l)) l.length=F at *;go_enter func43,ntmps43
 go_wp2_with fail;refine HP.out.mono ?_;rintro e w1 ⟨g,c,rfl,hrow,hb⟩;dsimp only;obtain⟨hgl,a,d,q,hl⟩:=hrow.get hml;obtain⟨gy,oy,rfl,hgy,haty⟩:=StR.elem (HR.out.grow hb) m hml;have HB:=jX hb;have HL:=jX hl;have HQ:=jX q;clear hrow hb HP hl q HR;generalize F m=lm at *;generalize l[m]=y at *;obtain⟨pj,hpj⟩:∃ pj,oy+m*13=pj:=⟨_,rfl⟩;rw [hpj] at haty;have Haty:=jX haty;clear haty;go_upto_region 5 with (fail)
 refine yao (S:=fun u=>Below w1.heap.size w1 u) 10 (by kernel_rfl) (by kernel_rfl) (fun _ _ d _ _ h=>by cases d<;>exact h) ?_;have hS0:=(Keep.drew [] w1).bz;generalize World.drew w1=u2 at *;refine' jG (v:=_) 0 hS0 (fun w hw=>?hen0) (fun K hK=>?ken0)
 case hen0=>(go_simp;try rfl)
 go_simp;refine hK _ ?_;clear hK K;refine' jG (v:=_) 1 hS0 (fun w hw=>?hen1) (fun K hK=>?ken1)
 case hen1=>(go_simp;try rfl)
 go_simp;refine hK _ ?_;clear hK K;refine' jG (v:=_) 2 hS0 (fun w hw=>?hen2) (fun K hK=>?ken2)
 case hen2=>(go_simp;try rfl)
 go_simp;refine hK _ ?_;clear hK K;refine' jG (v:=_) 3 hS0 (fun w hw=>?hen3) (fun K hK=>?ken3)
 case hen3=>(have q:=(World.cell?_of_block (hw.block g hgl)).trans HQ.out;go_simp;try rfl)
 go_simp;refine hK _ ?_;clear hK K;refine' jG (v:=_) 4 hS0 (fun w hw=>?hen4) (fun K hK=>?ken4)
 case hen4=>(go_simp;try rfl)
 go_simp;refine hK _ ?_;clear hK K;refine' jG (v:=_) 5 hS0 (fun w hw=>?hen5) (fun K hK=>?ken5)
 case hen5=>(go_simp;try rfl)
 go_simp;refine hK _ ?_;clear hK K;refine' jG (v:=_) 6 hS0 (fun w hw=>?hen6) (fun K hK=>?ken6)
 case hen6=>(go_simp;try rfl)
 go_simp;refine hK _ ?_;clear hK K;refine' jG (v:=_) 7 hS0 (fun w hw=>?hen7) (fun K hK=>?ken7)
 case hen7=>(go_simp;try rfl)
 go_simp;refine hK _ ?_;clear hK K;refine jG (v:=.agg (rC y.s.g)) 8 hS0 (fun w hw=>yad _ _ ⟨gy,pj+1,none⟩ _ rfl rfl ((Haty.out.keep (hw.block gy hgy)).lg)) (fun K hK=>?_);go_simp;refine hK _ ?_;clear hK K;refine jP 9 (fun K hK=>?_);refine yaf 39 #[.slice a lm.length d,.agg (rC y.s.g)] (by go_simp) ?_;refine (HSh.out _ _ (HL.out.grow hS0)).mono ?_;rintro e u3 ⟨a3,c3,rfl,hb,hl3⟩;have hS0:=hS0.trans (Below.mono hb hS0.size);refine ⟨_,rfl,?_⟩;go_simp;refine hK _ _ hS0 ?_;clear hK K;refine ⟨by kernel_rfl,?_⟩;simp only [List.drop_succ_cons,List.drop_zero];have HB:=jX (HB.out.trans (Below.mono hS0 HB.out.size));have HL3:=jX hl3.hd;clear hS0 hb hl3;go_wp2_with fail;go_ret2
 exact ⟨a3,c3,rfl,HB.out,HL3.out⟩
end
section
open Classical
theorem half_nn {n:Int} (h:0≤n):0≤half n:=by
 have h1:=ygO n;have h2:=(yeM (a:=0) (b:=n)).2 h;rw [show ((0:Int):Rat)=0 from rfl] at h2
 grind
theorem evS_pos (i:Nat) (e:EvA):0≤(evS i e).g∧(evS i e).a≤(evS i e).b:=by
 unfold evS;dsimp only;refine ⟨half_nn (by omega),?_⟩;have h:=half_nn (n:=((e.r % 12:Nat):Int)) (by omega);split
 ·exact Rat.le_refl
 grind
theorem yht (l:List EvA):Good (yaV l):=by
 refine ⟨yhv l,by rw [ycC];omega,fun s hs=>?_,fun h=>?_⟩
 ·obtain⟨i,e,rfl⟩:=ydP hs
  exact evS_pos i e
 have h1:(yaV l)[0]=evS 0 ((l.take 4)[0]'(by have:=h;unfold yaV at this;rw [List.length_mapIdx] at this;exact this)):=List.getElem_mapIdx ..;rw [h1];exact ⟨rfl,rfl⟩
def SPost (l:List EvA) (w:World) (e:Ending) (w':World):Prop:=∃ a c svs,e = .returned (.slice a svs.length c)∧StR w' (.slice a svs.length c) svs∧Good (stS svs)∧stS svs=yaV l∧svs.length=min 4 l.length∧Below w.heap.size w w'
theorem Steps_s (l:List EvA) (w:World) (sv:Value) (hr:EvsAt w sv l):Calls prog 38 #[sv] w (SPost l w) :=
 (Steps_c l w sv hr).mono fun e w' ⟨v,svs,he,hs,hst,hb⟩=>by
  obtain⟨a,c,rfl⟩:=hs.form;have hl:svs.length=min 4 l.length:=by rw [← ycC,← hst];unfold stS;rw [List.length_map]
  exact ⟨a,c,svs,he,hs,by rw [hst];exact yht l,hst,hl,hb⟩
end
section
open Classical
theorem ydu (w:World) (v0:Value) (m0:EvsArg w v0) :
  Calls prog 7 #[v0] w fun e w'=>e = .returned (.bool true)∧Below w.heap.size w w':=by
 obtain⟨l,hr⟩:=m0;have HA:=jX hr;obtain⟨ao,ac,rfl,hl9⟩:=hr.form;clear hr;have HK:=jX (fun u=>known51_c u);by_cases h0:l.length=0
 ·have hi:((l.length:Int) == 0)=true:=by rw [beq_iff_eq];omega
  go_enter func7,ntmps7
  go_wp2_with fail;refine (HK.out _).mono ?_;rintro e w1 ⟨rfl,hb⟩;dsimp only;have HB:=jX hb;clear hb;go_wp2_with fail;refine (HK.out _).mono ?_;rintro e w2 ⟨rfl,hb⟩;dsimp only;have HB:=jX (HB.out.trans (Below.mono hb HB.out.size));clear hb;go_wp2_with fail;go_ret
  exact ⟨rfl,HB.out⟩
 have hi:((l.length:Int) == 0)=false:=by rw [beq_eq_false_iff_ne];omega
 clear hl9;go_enter func7,ntmps7
 go_wp2_with fail;refine (HK.out _).mono ?_;rintro e w1 ⟨rfl,hb⟩;dsimp only;have HB:=jX hb;have HS:=jX (Steps_s l w1 _ (HA.out.later hb));clear hb HA HK;go_wp2_with fail;refine HS.out.mono ?_;rintro e w2 ⟨xa,xc,svs,rfl,hst,hgd,hso,hln,hb⟩;dsimp only;have HB:=jX (HB.out.trans (Below.mono hb HB.out.size));have HR:=jX hst;have HG:=jX hgd;have h1:0<svs.length:=by omega
 have h4:svs.length≤4:=by omega
 clear hb HS hst hgd hso hln hi h0;obtain⟨E,hE⟩:∃ E,E=(ybG (sAt (stS svs)) svs.length (svs.length-1)).map (mvI (sAt (stS svs) (svs.length-1)).g):=⟨_,rfl⟩;have C1:=jX (fun u sv (h:StR u sv svs)=>LivP.row (yea svs HG.out h1 h4 u sv h));have C2:=jX (fun u sv (h:StR u sv svs)=>LivP.row (ygv svs HG.out h1 h4 u sv h));have C3:=jX (fun u sv (h:StR u sv svs)=>Occurs_c svs HG.out h1 h4 u sv h);have C4:=jX (fun u sv (h:StR u sv svs)=>Ends_c svs HG.out h1 h4 u sv h E hE);have C5:=jX (fun u sv (h:StR u sv svs)=>LivT.row (rlive_c svs HG.out h1 h4 u sv h));have C6:=jX (fun u sv (h:StR u sv svs)=>LivT.row (yeD svs HG.out h1 h4 u sv h));have HSt:=jX (StsOk.at _ HG.out.ok)
 have hsm:∀ i∈ybG (sAt (stS svs)) svs.length (svs.length-1),SmI 253 i:=by
  have:=yfL HSt.out h4 0 (by omega);unfold ybG;rw [Nat.sub_self];exact this
 have hgq:FitQ 24 (sAt (stS svs) (svs.length-1)).g:=ycG (HSt.out.g _);have HSh:=jX (fun u v (h:Ls u [(v,ybG (sAt (stS svs)) svs.length (svs.length-1))])=>h.shift (List.mem_singleton.2 rfl) (k:=253) (by omega) hsm hgq);rw [← hE] at HSh;obtain⟨m,hm⟩:∃ m,svs.length-1=m:=⟨_,rfl⟩;rw [hm] at HSh;have hml:m<svs.length:=by omega
 rw [ybF hml,yaw] at HSh;have hw:IntKind.i64.wrap ((svs.length:Int)-1)=(m:Int):=by rw [show (svs.length:Int)-1=(m:Int) by omega];exact IntWalk.i64_in _ (by omega)
 have hm1:(m:Int)<(svs.length:Int):=by omega
 have hm0:(0:Int)≤(m:Int):=by omega
 have hn0:(0:Int)<(svs.length:Int):=by omega
 have h16:svs.length≤16:=by omega
 clear hE hsm hgq HSt hm HG;generalize ybG (sAt (stS svs)) svs.length=F at *;generalize rchS (sAt (stS svs))=G at *;go_wp2_with fail;refine (C1.out _ _ HR.out).mono ?_;rintro e w3 ⟨g1,c1,rfl,hr1,hb⟩;dsimp only;have HB:=jX (HB.out.trans (Below.mono hb HB.out.size));have HR:=jX (HR.out.grow hb);have R1:=jX hr1;clear hb hr1 C1;go_wp2_with fail;refine (C2.out _ _ HR.out).mono ?_;rintro e w4 ⟨g2,c2,rfl,hr2,hb⟩;dsimp only;have HB:=jX (HB.out.trans (Below.mono hb HB.out.size));have HR:=jX (HR.out.grow hb);have R1:=jX (R1.out.grow hb);have R2:=jX hr2;clear hb hr2 C2;go_wp2_with fail;refine (C3.out _ _ HR.out).mono ?_;rintro e w5 ⟨rfl,hb⟩;dsimp only;have HB:=jX (HB.out.trans (Below.mono hb HB.out.size));have HR:=jX (HR.out.grow hb);have R1:=jX (R1.out.grow hb);have R2:=jX (R2.out.grow hb);clear hb C3;go_wp2_with fail;refine (C4.out _ _ HR.out).mono ?_;rintro e w6 ⟨ea,ec,rfl,hb,hle⟩;dsimp only;have HB:=jX (HB.out.trans (Below.mono hb HB.out.size));have HR:=jX (HR.out.grow hb);have R1:=jX (R1.out.grow hb);have R2:=jX (R2.out.grow hb);have HE:=jX hle;clear hb hle C4;go_wp2_with fail;refine (C5.out _ _ HR.out).mono ?_;rintro e w7 ⟨g3,c3,rfl,hr3,hb⟩;dsimp only;have HB:=jX (HB.out.trans (Below.mono hb HB.out.size));have HR:=jX (HR.out.grow hb);have R1:=jX (R1.out.grow hb);have R2:=jX (R2.out.grow hb);have HE:=jX (HE.out.grow hb);have R3:=jX hr3;clear hb hr3 C5;obtain⟨hgl,ma,mc,q,hlm⟩:=R3.out.get hml;obtain⟨gy,oy,rfl,hgy,haty⟩:=StR.elem HR.out m hml;have HL:=jX hlm;have HQ:=jX q;clear q hlm;generalize F m=lm at *;generalize svs[m]=y at *;obtain⟨pj,hpj⟩:∃ pj,oy+m*13=pj:=⟨_,rfl⟩;rw [hpj] at haty;have Haty:=jX haty;clear haty;go_upto_region 9 with (fail)
 refine yao (S:=fun u=>Below w7.heap.size w7 u) 14 (by kernel_rfl) (by kernel_rfl) (fun _ _ d _ _ h=>by cases d<;>exact h) ?_;have hS0:=(Keep.drew [] w7).bz;generalize World.drew w7=u2 at *;refine' jG (v:=_) 0 hS0 (fun w hw=>?hrr0) (fun K hK=>?krr0)
 case hrr0=>(go_simp;try rfl)
 go_simp;refine hK _ ?_;clear hK K;refine' jG (v:=_) 1 hS0 (fun w hw=>?hrr1) (fun K hK=>?krr1)
 case hrr1=>(go_simp;try rfl)
 go_simp;refine hK _ ?_;clear hK K;refine' jG (v:=_) 2 hS0 (fun w hw=>?hrr2) (fun K hK=>?krr2)
 case hrr2=>(go_simp;try rfl)
 go_simp;refine hK _ ?_;clear hK K;refine' jG (v:=_) 3 hS0 (fun w hw=>?hrr3) (fun K hK=>?krr3)
 case hrr3=>(go_simp;try rfl)
 go_simp;refine hK _ ?_;clear hK K;refine' jG (v:=_) 4 hS0 (fun w hw=>?hrr4) (fun K hK=>?krr4)
 case hrr4=>(go_simp;try rfl)
 go_simp;refine hK _ ?_;clear hK K;refine' jG (v:=_) 5 hS0 (fun w hw=>?hrr5) (fun K hK=>?krr5)
 case hrr5=>(have q:=(World.cell?_of_block (hw.block g3 hgl)).trans HQ.out;go_simp;try rfl)
 go_simp;refine hK _ ?_;clear hK K;refine' jG (v:=_) 6 hS0 (fun w hw=>?hrr6) (fun K hK=>?krr6)
 case hrr6=>(go_simp;try rfl)
 go_simp;refine hK _ ?_;clear hK K;refine' jG (v:=_) 7 hS0 (fun w hw=>?hrr7) (fun K hK=>?krr7)
 case hrr7=>(go_simp;try rfl)
 go_simp;refine hK _ ?_;clear hK K;refine' jG (v:=_) 8 hS0 (fun w hw=>?hrr8) (fun K hK=>?krr8)
 case hrr8=>(go_simp;try rfl)
 go_simp;refine hK _ ?_;clear hK K;refine' jG (v:=_) 9 hS0 (fun w hw=>?hrr9) (fun K hK=>?krr9)
 case hrr9=>(go_simp;try rfl)
 go_simp;refine hK _ ?_;clear hK K;refine' jG (v:=_) 10 hS0 (fun w hw=>?hrr10) (fun K hK=>?krr10)
 case hrr10=>(go_simp;try rfl)
 go_simp;refine hK _ ?_;clear hK K;refine' jG (v:=_) 11 hS0 (fun w hw=>?hrr11) (fun K hK=>?krr11)
 case hrr11=>(go_simp;try rfl)
 go_simp;refine hK _ ?_;clear hK K;refine jG (v:=.agg (rC y.s.g)) 12 hS0 (fun w hw=>yad _ _ ⟨gy,pj+1,none⟩ _ rfl rfl ((Haty.out.keep (hw.block gy hgy)).lg)) (fun K hK=>?_);go_simp;refine hK _ ?_;clear hK K;refine jP 13 (fun K hK=>?_);refine yaf 39 #[.slice ma lm.length mc,.agg (rC y.s.g)] (by go_simp) ?_;refine (HSh.out _ _ (HL.out.grow hS0)).mono ?_;rintro e u3 ⟨xe,ye,rfl,hb,hl3⟩;have hS0:=hS0.trans (Below.mono hb hS0.size);refine ⟨_,rfl,?_⟩;go_simp;refine hK _ _ hS0 ?_;clear hK K;refine ⟨by kernel_rfl,?_⟩;simp only [List.drop_succ_cons,List.drop_zero];have HB:=jX (HB.out.trans (Below.mono hS0 HB.out.size));have HR:=jX (HR.out.grow hS0);have R1:=jX (R1.out.grow hS0);have R2:=jX (R2.out.grow hS0);have R3:=jX (R3.out.grow hS0);have HE:=jX (HE.out.grow hS0);have HN:=jX hl3.hd;clear hS0 hb hl3 HL HQ Haty HSh hgl hgy;go_wp2_with fail;refine (C6.out _ _ HR.out).mono ?_;rintro e w9 ⟨g4,c4,rfl,hr4,hb⟩;dsimp only;have HB:=jX (HB.out.trans (Below.mono hb HB.out.size));have R1:=jX (R1.out.grow hb);have R2:=jX (R2.out.grow hb);have R3:=jX (R3.out.grow hb);have HE:=jX (HE.out.grow hb);have HN:=jX (HN.out.grow hb);have R4:=jX hr4;clear hb hr4 C6 HR;go_wp2_with fail;refine (yfn svs.length h16 G _ _ _ _ _ R1.out R4.out).mono ?_;rintro e wa ⟨rfl,hb⟩;dsimp only;have HB:=jX (HB.out.trans (Below.mono hb HB.out.size));have R2:=jX (R2.out.grow hb);have R3:=jX (R3.out.grow hb);have HE:=jX (HE.out.grow hb);have HN:=jX (HN.out.grow hb);clear hb R1 R4;go_wp2_with fail;refine (yfn svs.length h16 F _ _ _ _ _ R2.out R3.out).mono ?_;rintro e wb ⟨rfl,hb⟩;dsimp only;have HB:=jX (HB.out.trans (Below.mono hb HB.out.size));have R3:=jX (R3.out.grow hb);have HE:=jX (HE.out.grow hb);have HN:=jX (HN.out.grow hb);clear hb R2;obtain⟨hgl,ma,mc,q,_⟩:=R3.out.get h1;go_wp2_with fail;refine (HE.out.peq_t HN.out).mono ?_;rintro e wc ⟨rfl,hb⟩;dsimp only;have HB:=jX (HB.out.trans (Below.mono hb HB.out.size));clear hb R3;go_wp2_with fail;go_ret
 exact ⟨rfl,HB.out⟩
end
end Go.Proofs.YtpgffjjpiafhpaaGreatDoor
