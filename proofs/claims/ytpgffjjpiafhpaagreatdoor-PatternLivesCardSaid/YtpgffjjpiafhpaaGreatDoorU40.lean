/- Parts of a proof: Bq Br Hl. -/
import Derived.Test.YtpgffjjpiafhpaaGreatDoorU39
import Derived.Test.YtpgffjjpiafhpaaGreatDoorU15
set_option linter.unusedVariables false
set_option linter.unusedSimpArgs false
set_option maxRecDepth 100000
set_option maxHeartbeats 8000000
namespace Go.Proofs.YtpgffjjpiafhpaaGreatDoor
open Go.RowKit Tryz
section
open Classical
abbrev OBK (w0 w:World) (v:Value) (l:List K):Prop:=OB (fun x:K=>kcells x.1) 30 9 w0 w v l
theorem OBK.app {w0 w:World} {v:Value} {l:List K} (t:K) (h:OBK w0 w v l) (h9:l.length≤1000000) :
  ∃ u,w.alloc (.cells (kC t) 30)=u∧∃ v4 u4,(Builtin.append_ #[55,55] 55 #[v,.slice (some ⟨w.heap.size,0,none⟩) 1 1]).run prog u = .ok v4 u4∧OBK w0 u4 v4 (l++[t]):=by
 obtain⟨ub,gx,e3,e4,hz1,hkx,hx⟩:=KR.single t w;obtain⟨b,hbs,hoe,hback⟩:=(h.later hkx.bz).oe;obtain⟨v4,u4,hr4,ho4,hn4,_⟩:=KR.app' (ty:=55) hoe (.inr (by simp)) hx (by simp;omega);rw [e4];exact ⟨ub,e3,v4,u4,hr4,hback _ _ _ ho4⟩
theorem OBK.one (t:K) (w:World):∃ u g,w.alloc (.cells (kC t) 30)=u∧w.heap.size=g∧OBK w u (.slice (some ⟨g,0,none⟩) 1 1) [t]:=by
 obtain⟨u,g,e3,e4,hz1,hk,hx⟩:=KR.single t w;refine ⟨u,g,e3,e4,?_,?_,hk.bz⟩
 ·subst e3 e4
  exact yhE (cur:=kC t) (fun x=>yaU x.1) rfl hx (World.alloc_heap_new w _) (Nat.le_refl _) (by decide) rfl
 intro g' hg';simp [Value.ownBlock] at hg';omega
theorem OBK.back {w0 w1 w:World} {v:Value} {l:List K} (h:OBK w1 w v l) (hb:Below w0.heap.size w0 w1):OBK w0 w v l :=
 ⟨h.row,fun g hg=>Nat.le_trans hb.size (h.base g hg),hb.trans (Below.mono h.keep hb.size)⟩
noncomputable def frmL (s:Nat→St) (A:Nat→List (Iv K)) (t:K) (n:Nat):List K:=(List.range n).map (frm s A t)
theorem yew (s:Nat→St) (A:Nat→List (Iv K)) (t:K) (n:Nat):(frmL s A t n).length=n:=by
 unfold frmL;rw [List.length_map,List.length_range]
theorem frmL_succ (s:Nat→St) (A:Nat→List (Iv K)) (t:K) (n:Nat):frmL s A t (n+1)=frmL s A t n++[frm s A t n]:=by
 unfold frmL;rw [List.range_succ,List.map_append];rfl
theorem yiw (s:Nat→St) (A:Nat→List (Iv K)) (t:K) {n i:Nat} (h:i<(frmL s A t n).length):(frmL s A t n)[i]=frm s A t i:=by
 have h2:i<((List.range n).map (frm s A t)).length:=h;show ((List.range n).map (frm s A t))[i]'h2=_
 rw [List.getElem_map,List.getElem_range]
theorem swp_one {k:Nat} {a b:Rat} {x:K} (hx:Sm k x) (hk:k≤60000) (ha:FitQ 24 a) (hb:FitQ 24 b) (hab:a≤b):swpK a b [(⟨⟨x,false⟩,⟨x,true⟩⟩:Iv K)]=[⟨⟨mvK a x,false⟩,⟨mvK b x,true⟩⟩]:=by
 refine yec (l:=[⟨⟨mvK a x,false⟩,⟨mvK b x,true⟩⟩]) ⟨?_,trivial⟩;have:=mv_le hx (by omega) ha hb hab;rw [Bd.lt_def];dsimp only;grind
def FrPost (s:Nat→St) (A:Nat→List (Iv K)) (t:K) (n:Nat) (w:World) (e:Ending) (w':World):Prop :=
 Below w.heap.size w w'∧(((∀ i,i+1<n→nxt s A i (frm s A t i)≠[])∧∃ a c,e = .returned (.tuple #[.slice a n c,.bool true])∧KR w' (.slice a n c) (frmL s A t n)) ∨
  ((∃ i,i+1<n∧nxt s A i (frm s A t i)=[])∧e = .returned (.tuple #[.slice none 0 0,.bool false])))
theorem hdK_get {l:List (Iv K)} (h:0<l.length):hdK l=ybi l[0]:=by
 cases l with
 | nil=>cases h
 | cons I r=>rfl
theorem from_c (svs:List StV) (hg:Good (stS svs)) (hh:∀ i,Hs (sAt (stS svs) i)) (h1:0<svs.length) (h4:svs.length≤4) (t:K) (ht:Hb 64 t) (w:World) (sv:Value) (hr:StR w sv svs) (gl cl:Nat)
  (hl:RowL w (.slice (some ⟨gl,0,none⟩) svs.length cl) svs.length (livAt (sAt (stS svs)) svs.length)) :
  Calls prog 65 #[sv,.slice (some ⟨gl,0,none⟩) svs.length cl,kv t] w (FrPost (sAt (stS svs)) (livAt (sAt (stS svs)) svs.length) t svs.length w):=by
 obtain⟨xa,xc,rfl⟩:=hr.form;have HR:=jX hr;have HL:=jX hl;have HG:=jX hg;have HH:=jX hh;have HSt:=jX (StsOk.at _ hg.ok);have HA:=jX (fun i=>yex HSt.out hh h4 i);have HT:=jX (yhk HSt.out hh HA.out ht);have HFew:=jX (fun i (hi:i<svs.length)=>show Few 4960 (livAt (sAt (stS svs)) svs.length i) from yhJ HSt.out.few h1 h4 (svs.length-1-i) (by omega))
 clear hr hl hg hh ht;generalize livAt (sAt (stS svs)) svs.length=F at *;unfold kv;go_enter func65,ntmps65
 go_upto_region 1 with (fail)
 obtain⟨W,ga,hW,ega,Bga,hga,hgW,HkW⟩:=al1h w (.cells (kC t) 30);rw [← hW];try rw [ega]
 clear hW ega;have HB:=jX HkW.out.bz;refine wp_region_lit ?_;refine wX (v:=.agg (kC t)) ⟨ga,0,none⟩ ((yax _ _ _ _ (yeZ Bga.out))) ?_;go_simp;refine fO ?_;obtain⟨w2,go,e3,e4,hob⟩:=OBK.one t W;refine yar (v:=.slice (some ⟨W.heap.size,0,none⟩) 1 1) (w':=W.alloc (.cells (kC t) 30)) (by rfl) (yaV 55 1 #[(0,.tmp 13)] #[(0,kv t)] _ rfl (by simp only [List.map_toArray,List.map_cons,List.map_nil];rfl) (yiq _ _)) (fun K hK=>?_);rw [e3,e4];clear e3 e4;go_simp;go_step
 have HO:=jX (OBK.back hob HB.out);clear hob HkW Bga hga hgW HB;go_wp2_with fail;go_loopw [8,9] (fun ov c wr=>∃ k:Nat,1≤k∧k≤svs.length∧c = .int .i64 (k:Int)∧OBK w wr ov (frmL (sAt (stS svs)) F t k)∧∀ i,i+1<k→nxt (sAt (stS svs)) F i (frm (sAt (stS svs)) F t i)≠[]) (fun _ c _=>svs.length-(intOf c).toNat)
 case atStart=>exact ⟨1,Nat.le_refl _,h1,rfl,HO.out,fun i h=>absurd h (by omega)⟩
 case round =>
  obtain⟨k,hk1,hk,rfl,ho,hne⟩:=hrel;rename World=>wr;obtain⟨po,pc,rfl⟩:=ho.form;have Hfl:=jX (yew (sAt (stS svs)) F t k);rw [yew] at ho ⊢;have HO:=jX ho;have HN:=jX hne;clear ho hne;by_cases hlt:k<svs.length
  ·obtain⟨j,hj⟩:∃ j,k=j+1:=⟨k-1,by omega⟩
   have hkc:(k:Int)<(svs.length:Int):=by omega
   have hjl:j<svs.length:=by omega
   have hsub:IntKind.i64.wrap ((k:Int)-1)=(j:Int):=by rw [show (k:Int)-1=(j:Int) by omega];exact IntWalk.i64_in _ (by omega)
   have hj1:(j:Int)<(svs.length:Int):=by omega
   have hj0:(0:Int)≤(j:Int):=by omega
   have hj2:(j:Int)<(k:Int):=by omega
   have Hj:=jX hj;clear hj;have HKp:=jX HO.out.keep;obtain⟨g,o,rfl,hg,hat⟩:=StR.elem (HR.out.grow HKp.out) k hlt;obtain⟨gy,oy,hge,hgy,haty⟩:=StR.elem (HR.out.grow HKp.out) j hjl;obtain⟨rfl,rfl⟩:gy=g∧oy=o:=by injection hge with hge;injection hge with h1 h2;exact ⟨h1.symm,h2.symm⟩
   have hrd:=HO.out.read;obtain⟨gt,ot,rfl,hgt,hatt⟩:=KR.elem hrd j (by rw [Hfl.out];have:=Hj.out;omega);rw [yiw] at hatt;clear hrd;obtain⟨hgl,ma,mc,q,hlm⟩:=(HL.out.grow HKp.out).get hlt;have hsk:=ybZ hlt;have hsj:=ybZ hjl;have HSab:=jX ((HG.out.pos _ (List.mem_map_of_mem (List.getElem_mem hlt))).2);have hxb:=HT.out j (by omega);have hz:=sz_le j (by omega);have hP:=yfQ (i:=j) HSt.out HH.out HA.out (sz_ge j) hz hxb;have hnb:Hid (nxt (sAt (stS svs)) F j (frm (sAt (stS svs)) F t j)=combK 2 (F k) [winI (sAt (stS svs)) j (frm (sAt (stS svs)) F t j)]):=by unfold nxt;rw [← Hj.out];exact jX rfl
   have hfk:frm (sAt (stS svs)) F t k=hdK (nxt (sAt (stS svs)) F j (frm (sAt (stS svs)) F t j)):=by rw [Hj.out];rfl
   have hwin:Hid (swpK (svs[j].s.g+svs[k].s.a) (svs[j].s.g+svs[k].s.b) [(⟨⟨frm (sAt (stS svs)) F t j,false⟩,⟨frm (sAt (stS svs)) F t j,true⟩⟩:Iv K)]=[winI (sAt (stS svs)) j (frm (sAt (stS svs)) F t j)]):=by
    unfold winI;rw [← Hj.out,hsk,hsj];refine jX (swp_one hxb.sm (by omega) ?_ ?_ ?_)
    ·rw [← hsk,← hsj];exact ydc (HSt.out.g j) (HSt.out.a k)
    ·rw [← hsk,← hsj];exact ydc (HSt.out.g j) (HSt.out.b k)
    have:=HSab.out;grind
   have fyg:FitQ 8 svs[j].s.g:=by rw [← hsj];exact HSt.out.g j
   have fxa:FitQ 8 svs[k].s.a:=by rw [← hsk];exact HSt.out.a k
   have fxb:FitQ 8 svs[k].s.b:=by rw [← hsk];exact HSt.out.b k
   have hfew:=HFew.out k hlt;have hxs:=hxb.sm;generalize svs[k]=x at *;generalize svs[j]=y at *;obtain⟨tj,htj⟩:∃ tj,frm (sAt (stS svs)) F t j=tj:=⟨_,rfl⟩;rw [htj] at hatt hxb hP hnb hfk hwin hxs;have Htj:=jX htj;clear htj;obtain⟨NX,hNX⟩:∃ NX,nxt (sAt (stS svs)) F j tj=NX:=⟨_,rfl⟩;rw [hNX] at hnb hP hfk;have Hnx:=jX hNX;obtain⟨WI,hWI⟩:∃ WI,winI (sAt (stS svs)) j tj=WI:=⟨_,rfl⟩;rw [hWI] at hnb hwin;clear hWI hNX;have HP:=jX hP;have HFk:=jX hfk;clear hP hfk hsk hsj hxb
   have hnl:NX.length≤10000:=by
    rw [hnb.out];exact le10 (n:=4960+2) (hfew.comb ⟨[WI.f.pt,WI.l.pt],by simp,fun i hi=>by rw [List.mem_singleton] at hi;subst hi;exact ⟨by simp,by simp⟩⟩) (yau _ _ _) (by omega)
   have HIn:=jX (fun u a b (h:Ls u [(a,F k)]) (h3:Ls u [(b,[WI])])=>by
    have:=h.interT h3 (by rw [← hnb.out];exact hnl);rw [← hnb.out] at this
    exact this)
   have HA1:=jX (fun u=>QAdd_c y.s.g x.s.a (fyg.mono (by decide)) (fxa.mono (by decide)) u);have HA2:=jX (fun u=>QAdd_c y.s.g x.s.b (fyg.mono (by decide)) (fxb.mono (by decide)) u);rw [yam,yam,yam] at HA1 HA2;have hab:y.s.g+x.s.a≤y.s.g+x.s.b:=by have:=HSab.out;grind
   have HSw:=jX (fun u v (h:Ls u [(v,[(⟨⟨tj,false⟩,⟨tj,true⟩⟩:Iv K)])])=>by
    have:=h.rsweep (k0:=szH j+17) (by omega) (fun s hs=>by rw [List.mem_singleton] at hs;subst hs;exact ⟨hxs,hxs⟩) (ydc fyg fxa) (ydc fyg fxb) hab (by rw [hwin.out];exact (show 1≤10000 by decide))
    rw [hwin.out] at this
    exact this)
   obtain⟨p,hp⟩:∃ p,oy+k*13=p:=⟨_,rfl⟩;obtain⟨pj,hpj⟩:∃ pj,oy+j*13=pj:=⟨_,rfl⟩;obtain⟨qj,hqj⟩:∃ qj,ot+j*9=qj:=⟨_,rfl⟩;rw [hp] at hat;rw [hpj] at haty;rw [hqj] at hatt;have Hat:=jX hat;have Haty:=jX haty;have HLt:=jX (fun (u:World) (h:u.heap[gt]? = wr.heap[gt]?)=>show (loadVar 30 ⟨gt,qj,none⟩).run prog u = .ok (.agg (kC tj)) u from yax _ _ _ _ (hatt.keep h))
   have HQ:=jX q;have HLm:=jX hlm;clear hat haty hatt hge hg q hlm fyg fxa fxb hab hfew hxs HSab hnb hwin;generalize F k=Fk at *;have HLi:=jX (fun u=>one_ls (Std.le_refl tj) u);have HBd:=jX (yeJ tj tj);rw [show kv tj = .agg (kC tj) from rfl] at HBd
   obtain⟨I,hI⟩:∃ I:Iv K,(⟨⟨tj,false⟩,⟨tj,true⟩⟩:Iv K)=I:=⟨_,rfl⟩;rw [hI] at HBd HLi HSw;clear hI;generalize kC tj=TJ at *;generalize y.s.g+x.s.a=QA at *;generalize y.s.g+x.s.b=QB at *;go_upto_region 5 with (fail)
   refine yaF 26 [(10,28),(11,28)] (fun _=>.cells #[.bool false,.string ⟨#[]⟩,.bool false,.string ⟨#[]⟩] 28) (by kernel_rfl) (by kernel_rfl) (by kernel_rfl) (fun t ht ev w o ho=>by simp at ht;subst ht;exact ycb ev w o ho) ?_;intro U hU;have HX1:=jX (Haty.out.kg hgy hU);have HX2:=jX (Hat.out.ka hgy hU);have HX3:=jX (Hat.out.kb hgy hU);have Q1:Hid (∀ m:KW U,Calls prog 106 #[.agg (rC y.s.g),.agg (rC x.s.a)] (Wk U m) fun e w'=>e = .returned (.agg (rC QA))∧∃ m,w'=Wk U m):=fun m=>qk m (HA1.out _);have Q2:Hid (∀ m:KW U,Calls prog 106 #[.agg (rC y.s.g),.agg (rC x.s.b)] (Wk U m) fun e w'=>e = .returned (.agg (rC QB))∧∃ m,w'=Wk U m):=fun m=>qk m (HA2.out _);simp only [List.map_cons,List.map_nil,unal,isAl,if_true,if_false,Bool.false_eq_true,List.take_succ_cons,List.take_zero]
   repeat (first
    | go_big_quiet_skip
    | (go_big_quiet_want;first
     | (refine yaj _ _ _ (.agg (rC y.s.g)) rfl rfl (by rintro _ ⟨m,rfl⟩;exact HX1.out m) ?_;go_simp;go_big_quiet_on)|(refine yaj _ _ _ (.agg (rC x.s.a)) rfl rfl (by rintro _ ⟨m,rfl⟩;exact HX2.out m) ?_;go_simp;go_big_quiet_on)|(refine yaj _ _ _ (.agg (rC x.s.b)) rfl rfl (by rintro _ ⟨m,rfl⟩;exact HX3.out m) ?_;go_simp;go_big_quiet_on)
     | (go_big_quiet_op;first|go_big_quiet_on|go_big_quiet_call (first
      | (go_at_call 106;with_reducible exact (Q1).out _)|(go_at_call 106;with_reducible exact (Q2).out _)))))
   refine wpQuiet_nil ?_;intro p' hp1 hp2 w3 hk3 hz;have b5:=hz (10,28) (by simp);have b6:=hz (11,28) (by simp);have n56:p' 10≠p' 11:=fun h=>absurd (hp2 10 (by simp) 11 (by simp) h) (by decide);have h5:=hp1 10 (by simp);have h6:=hp1 11 (by simp);simp only [List.map_cons,List.map_nil,pl,List.drop_succ_cons,List.drop_zero];dsimp only at b5 b6;generalize p' 10=g5 at *;generalize p' 11=g6 at *;clear hz hp1 hp2 Q1 Q2 HX1 HX2 HX3 hU U p';refine wR g5 (rC QA) b5 (by exact q_size) (by rfl) (yaP _) (fun w4 b54 k4=>?_);go_simp;refine fO ?_;have b64:=k4.heap b6 (by simp;exact fun h=>n56 h.symm);refine wR g6 (rC QB) b64 (by exact q_size) (by rfl) (yaP _) (fun w5 b65 k5=>?_);go_simp;refine fO ?_;have B5:=jX (k5.heap b54 (by simp;exact n56));have B6:=jX b65;have hk4:=show Keep [] wr w4 from hk3.trans k4 (by simp;exact h5)
   have hbb:=(show Keep [] wr w5 from hk4.trans k5 (by simp;exact h6)).bz
   have HO:=jX (HO.out.later hbb);have HQ:=jX ((World.cell?_of_block (hbb.block gl hgl)).trans HQ.out);have HLm:=jX (HLm.out.grow hbb);have Ht5:=jX (hbb.block gt hgt);have hgt5:gt<w5.heap.size:=Nat.lt_of_lt_of_le hgt hbb.size;have hgl5:gl<w5.heap.size:=Nat.lt_of_lt_of_le hgl hbb.size;clear hbb hk4 k4 k5 b5 b6 b54 b64 b65 n56 hk3 h5 h6 HA1 HA2 Haty Hat HKp hgt hgl hgy;go_upto_region 6 with (fail)
   refine yae (S:=fun u=>Below w5.heap.size w5 u) 20 (by kernel_rfl) (by kernel_rfl) (fun _ _ d _ _ h=>by cases d<;>exact h) ?_;have hS0:=(Keep.drew [] w5).bz;generalize World.drew w5=u2 at *;refine tV 0 hS0 ?_;go_simp;refine tV 1 hS0 ?_;go_simp;refine tV 2 hS0 ?_;go_simp;refine' jG (v:=_) 3 hS0 (fun w hw=>?hfa3) (fun K hK=>?kfa3)
   case hfa3=>(have q:=(World.cell?_of_block (hw.block gl hgl5)).trans HQ.out;go_simp;try rfl)
   go_simp;go_step
   refine tV 4 hS0 ?_;go_simp;refine tV 5 hS0 ?_;go_simp;refine tV 6 hS0 ?_;go_simp;refine tV 7 hS0 ?_;go_simp;refine tX 8 ⟨gt,qj,none⟩ hS0 (fun w hw=>HLt.out _ ((hw.block gt hgt5).trans Ht5.out)) ?_;go_simp;refine tV 9 hS0 ?_;go_simp;refine tV 10 hS0 ?_;go_simp;refine tV 11 hS0 ?_;go_simp;refine tV 12 hS0 ?_;go_simp;refine tX 13 ⟨gt,qj,none⟩ hS0 (fun w hw=>HLt.out _ ((hw.block gt hgt5).trans Ht5.out)) ?_;go_simp;refine yaI (v:=iv I) 14 (by rfl) (by decide) (by kernel_rfl) (by kernel_rfl) (by rfl) hS0 (fun w hw=>yaC 32 #[(0,.tmp 53),(1,.tmp 58)] #[(0,.agg TJ),(1,.agg TJ)] (iC I) rfl (by simp only [List.map_toArray,List.map_cons,List.map_nil];rfl) HBd.out) (fun K hK=>?_);go_simp;go_step
   refine tX 16 ⟨g5,0,none⟩ hS0 (fun w hw=>ycw ((hw.block g5 (yaa B5.out)).trans B5.out)) ?_;go_simp;refine tX 17 ⟨g6,0,none⟩ hS0 (fun w hw=>ycw ((hw.block g6 (yaa B6.out)).trans B6.out)) ?_;go_simp;refine jP 15 (fun K hK=>?_);refine ybK (.slice (some ⟨u2.heap.size,0,none⟩) 1 1) (u2.alloc (.cells (iC I) 32)) (yaV 22 1 #[(0,.tmp 59)] #[(0,iv I)] _ rfl (by simp only [List.map_toArray,List.map_cons,List.map_nil];rfl) (ybl _ _)) ?_;obtain⟨u3,gi,e3,e4,k3,hl3⟩:=HLi.out u2;rw [e3,e4];have hS0:=hS0.trans (Below.mono k3.bz hS0.size);have Hl3:=jX hl3;clear e3 e4 k3 hl3;go_simp;refine hK _ _ hS0 ?_;clear hK K;refine jP 18 (fun K hK=>?_);refine yaf 61 #[.slice (some ⟨gi,0,none⟩) 1 1,.agg (rC QA),.agg (rC QB)] (yaA _ _ _ _ rfl (by simp only [List.map_toArray,List.map_cons,List.map_nil];rfl) (by rfl)) ?_;refine (HSw.out _ _ Hl3.out).mono ?_;rintro e u5 ⟨a5,c5,rfl,hb,hl5,_⟩;have hS0:=hS0.trans (Below.mono hb hS0.size);refine ⟨_,rfl,?_⟩;go_simp;refine hK _ _ hS0 ?_;clear hK K;refine jP 19 (fun K hK=>?_);refine yaf 108 #[.slice ma Fk.length mc,.slice a5 [WI].length c5] (yaA _ _ _ _ rfl (by simp only [List.map_toArray,List.map_cons,List.map_nil];rfl) (by rfl)) ?_;refine (HIn.out _ _ _ (HLm.out.grow hS0) hl5).mono ?_;rintro e u6 ⟨a6,c6,rfl,hb,hl6,_⟩;have hS0:=hS0.trans (Below.mono hb hS0.size);refine ⟨_,rfl,?_⟩;go_simp;refine hK _ _ hS0 ?_;clear hK K;refine ⟨by kernel_rfl,?_⟩;simp only [List.drop_succ_cons,List.drop_zero];have HO:=jX (HO.out.later hS0);have HL6:=jX hl6;clear hS0 hb hl6 hl5 HSw HIn HQ HLm B5 B6 HLi HBd Hl3 Ht5 hgt5 hgl5 HLt;by_cases hz:NX.length=0
   ·have hi:((NX.length:Int) == 0)=true:=by rw [beq_iff_eq];omega
    have hnil:NX=[]:=List.length_eq_zero_iff.1 hz
    have HXx:Hid (∃ i,i+1<svs.length∧nxt (sAt (stS svs)) F i (frm (sAt (stS svs)) F t i)=[]):=jX ⟨j,by have:=Hj.out;omega,by
     rw [Htj.out,Hnx.out]
     exact hnil⟩
    clear hz hnil;go_wp2_with fail;go_ret2
    exact ⟨HO.out.keep,.inr ⟨HXx.out,rfl⟩⟩
   have hi:((NX.length:Int) == 0)=false:=by rw [beq_eq_false_iff_ne];omega
   have h0i:(0:Int)<(NX.length:Int):=by omega
   have h0n:0<NX.length:=by omega
   obtain⟨gn,on,rfl,hgn,hatn⟩:=IvR.elem (HL6.out _ (List.mem_singleton.2 rfl)).1 0 h0n;obtain⟨HPk,_,_⟩:=HP.out _ (List.getElem_mem h0n);have hd:=hdK_get h0n;rw [Nat.zero_mul,Nat.add_zero] at hatn;rw [hd] at HFk;generalize NX[0]=J at *;have HPk:=jX HPk
   have HNe:=jX (fun i (hi:i+1<k+1)=>show nxt (sAt (stS svs)) F i (frm (sAt (stS svs)) F t i)≠[] from by
    by_cases hij:i+1<k
    ·exact HN.out i hij
    rw [show i=j by have:=Hj.out;omega,Htj.out,Hnx.out]
    exact fun h=>hz (by rw [h];rfl))
   have hfs:=frmL_succ (sAt (stS svs)) F t k;rw [HFk.out] at hfs;have Hfs:=jX hfs;clear hz hd hfs HFk HN Hnx Htj;go_upto_region 9 with (fail)
   refine wp_region_lit ?_;refine wV ?_;go_simp;refine wV ?_;go_simp;refine wV ?_;go_simp;refine wX (v:=iv J) ⟨gn,on,none⟩ ((yaJ _ _ _ _ hatn)) ?_;go_simp;refine wE 23 #[iv J] (HPk.out _) (fun w7 hb=>?_);go_simp;refine fO ?_;have HO:=jX (HO.out.later hb);clear hb hatn hgn HPk HL6;obtain⟨u8,e8,v9,u9,hr9,ho9⟩:=OBK.app (ybi J) HO.out (by rw [Hfl.out];omega);refine yar (v:=.slice (some ⟨w7.heap.size,0,none⟩) 1 1) (w':=w7.alloc (.cells (kC (ybi J)) 30)) (by rfl) (yaV 55 1 #[(0,.tmp 72)] #[(0,kv (ybi J))] _ rfl (by simp only [List.map_toArray,List.map_cons,List.map_nil];rfl) (yiq _ _)) (fun K hK=>?_);rw [e8];clear e8;go_simp;go_step
   refine yar (by rfl) (ybj (.tmp 68) (.tmp 73) 55 _ _ _ rfl rfl rfl hr9) (fun K hK=>?_);go_simp;go_step
   clear hr9;rw [← Hfs.out] at ho9;have HO9:=jX ho9;clear ho9;go_wp2_with fail;go_roundw
   case rel=>exact ⟨k+1,by omega,by omega,congrArg (Value.int .i64) (by omega),HO9.out,HNe.out⟩
   case measure=>simp [intOf];omega
  obtain rfl:k=svs.length:=by omega
  have hkc:¬ ((svs.length:Int)<(svs.length:Int)):=by omega
  have hrd:=HO.out.read;have HRd:=jX hrd;clear hrd;go_wp2_with fail;go_ret2
  exact ⟨HO.out.keep,.inl ⟨HN.out,_,_,rfl,HRd.out⟩⟩
end
section
open Classical
section
variable {s:Nat→St} (h:StOk s) (hh:∀ i,Hs (s i)) {n:Nat} (hn:n≤4)
include h hh hn
theorem live_pick (I:Iv K) (hI:I∈livAt s n 0):(∀ w,Calls prog 23 #[iv I] w fun e w'=>e = .returned (kv (ybi I))∧Bl w w')∧Hb 64 (ybi I)∧holds (livAt s n 0) (ybi I)=true:=by
 have hi:=yex h hh hn 0 I hI;obtain⟨c,b,m⟩:=yit 60 64 2 1 512 (2 ^ 40) (by decide) (by decide) (by decide) (by decide) (by decide) (by decide) (by decide) (by decide) (by decide) I hi.1 hi.2 (by decide) (by decide) (by decide) (by decide);exact ⟨c,b,ygx hI (yhi ((yet _).val I hI) m)⟩
end
theorem fr_split {s:Nat→St} {n:Nat} {w w':World} {e:Ending} {t:K} (h:FrPost s (livAt s n) t n w e w') (hn:∀ i,i<n→i+1<n→nxt s (livAt s n) i (frm s (livAt s n) t i)≠[]):Below w.heap.size w w'∧∃ a c,e = .returned (.tuple #[.slice a n c,.bool true])∧KR w' (.slice a n c) (frmL s (livAt s n) t n):=by
 obtain⟨hb,⟨_,h⟩|⟨⟨i,hi,hz⟩,_⟩⟩:=h
 ·exact ⟨hb,h⟩
 exact absurd hz (hn i (by omega) hi)
theorem yim (s:Nat→St) (A:Nat→List (Iv K)) (t:K) {n i:Nat} (h:i<n):tAt (frmL s A t n) i=frm s A t i:=by
 rw [yht (by rw [yew];exact h),yiw]
theorem frmL_sm {s:Nat→St} (h:StOk s) (hh:∀ i,Hs (s i)) {A:Nat→List (Iv K)} (hA:∀ i,HI 512 (A i)) {t:K} (ht:Hb 64 t) {n:Nat} (hn:n≤4):∀ x∈frmL s A t n,Sm 50017 x:=fun x hx=>by
 unfold frmL at hx;obtain⟨i,hi,rfl⟩:=List.mem_map.1 hx;rw [List.mem_range] at hi;exact (yhk h hh hA ht i (by omega)).sm.mono (by have:=sz_le3 i (by omega);omega)
theorem frm_all {s:Nat→St} (h:StOk s) (hh:∀ i,Hs (s i)) {n:Nat} (hn:n≤4) (hp:∀ i,0≤(s i).g∧(s i).a≤(s i).b) {t:K} (ht:Hb 64 t) (hl:holds (livAt s n 0) t=true):hall s (tAt (frmL s (livAt s n) t n)) n=true :=
 yio fun i hi=>by
  have:=(yhu h hn hh hp ht hl i hi).2.2;unfold hstp at this ⊢;rw [yim _ _ _ hi,yim _ _ _ (show i-1<n by omega)]
  exact this
end
section
open Classical
theorem fr_no {s:Nat→St} {A:Nat→List (Iv K)} {n:Nat} {w w':World} {e:Ending} {t:K} (h:FrPost s A t n w e w') (h1:1<n) (hn:nxt s A 0 t=[]):Below w.heap.size w w'∧e = .returned (.tuple #[.slice none 0 0,.bool false]):=by
 obtain⟨hb,⟨h,_⟩|⟨_,h⟩⟩:=h
 ·exact absurd hn (h 0 h1)
 exact ⟨hb,h⟩
theorem yiX (n m r:Nat) (h:n≤1000000) (hr:n % m=r):(IntKind.i64.wrap (n:Int)).tmod (m:Int)=(r:Int):=by
 rw [IntWalk.i64_in _ (by omega),Int.tmod_eq_emod_of_nonneg (by omega),← hr];omega
theorem yfp (w:World) (v0:Value) (a1:Int) (w1:(Lit.int .u8 a1).wf=true) (v2:Value) (m0:EvsArg w v0) (m2:RRArg w v2) :
  Calls prog 12 #[v0,.int .u8 a1,v2] w fun e w'=>e = .returned (.bool true)∧Below w.heap.size w w':=by
 obtain⟨l,hr⟩:=m0;obtain⟨x,rfl,hsz⟩:=m2;obtain⟨b1,b2⟩:=Go.bounds_u8 w1;obtain⟨n,rfl⟩:∃ n:Nat,a1=(n:Int):=⟨a1.toNat,by omega⟩;have HA:=jX hr;obtain⟨ao,ac,rfl,hl9⟩:=hr.form;have HF:=jX (small_c x hsz);have HK:=jX (fun u=>known51_c u);have HLr:=jX (fun (u:World) (g:Nat)=>yhg (w:=u) (g:=g) (x:=x));have hvx:x.v = .agg x.cells.toArray:=rfl;rw [hvx] at HF ⊢;clear hsz w1 hvx hr;by_cases h0:l.length=0
 ·have hi:((l.length:Int) == 0)=true:=by rw [beq_iff_eq];omega
  clear HF;generalize x.cells.toArray=X at *;go_enter func12,ntmps12
  go_upto_region 1 with (fail)
  obtain⟨W,ga,hW,ega,Bga,hga,hgW,HkW⟩:=al1h w (.cells X 30);rw [← hW];try rw [ega]
  clear hW ega;refine wp_region_lit ?_;refine wE 36 #[] (HK.out _) (fun w3 hb=>?_);go_simp;refine fO ?_;have HB:=jX (HkW.out.bz.trans (Below.mono hb HkW.out.size));clear hb HLr;iterate 11 (first|(refine gV ?_;go_simp)|(refine gS ?_;go_simp))
  refine fO ?_;go_wp2_with fail;refine (HK.out _).mono ?_;rintro e w5 ⟨rfl,hb⟩;dsimp only;have HB:=jX (HB.out.trans (Below.mono hb HB.out.size));clear hb;go_wp2_with fail;go_ret
  exact ⟨rfl,HB.out⟩
 have hi:((l.length:Int) == 0)=false:=by rw [beq_eq_false_iff_ne];omega
 cases hok:x.ok with
 | false =>
  rw [hok] at HF;clear hok;generalize x.cells.toArray=X at *;go_enter func12,ntmps12
  go_upto_region 1 with (fail)
  obtain⟨W,ga,hW,ega,Bga,hga,hgW,HkW⟩:=al1h w (.cells X 30);rw [← hW];try rw [ega]
  clear hW ega;refine wp_region_lit ?_;refine wE 36 #[] (HK.out _) (fun w3 hb=>?_);go_simp;refine fO ?_;have HB:=jX (HkW.out.bz.trans (Below.mono hb HkW.out.size));have Bga:=jX ((hb.block ga (yaa Bga.out)).trans Bga.out);clear hb;iterate 7 (first|(refine gV ?_;go_simp)|(refine gS ?_;go_simp))
  refine gX ⟨ga,0,none⟩ (HLr.out _ _ Bga.out) ?_;go_simp;refine gE 51 #[.agg X] (HF.out _) (fun w4 hb=>?_);go_simp;refine fO ?_;have HB:=jX (HB.out.trans (Below.mono hb HB.out.size));clear hb HF HLr;iterate 2 (first|(refine gV ?_;go_simp)|(refine gS ?_;go_simp))
  refine fO ?_;go_wp2_with fail;refine (HK.out _).mono ?_;rintro e w5 ⟨rfl,hb⟩;dsimp only;have HB:=jX (HB.out.trans (Below.mono hb HB.out.size));clear hb;go_wp2_with fail;go_ret
  exact ⟨rfl,HB.out⟩
 | true =>
  obtain⟨t,ht,hx⟩:=RawR.ok_some hok;rw [hok] at HF;rw [hx] at HF HLr ⊢;clear hok hx hl9;have Ht:=jX ht;clear ht;go_enter func12,ntmps12
  go_upto_region 1 with (fail)
  obtain⟨W,ga,hW,ega,Bga,hga,hgW,HkW⟩:=al1h w (.cells (kC t) 30);rw [← hW];try rw [ega]
  clear hW ega;have HA:=jX (HA.out.later HkW.out.bz);refine wp_region_lit ?_;refine wE 36 #[] (HK.out _) (fun w3 hb=>?_);go_simp;refine fO ?_;have HB:=jX (HkW.out.bz.trans (Below.mono hb HkW.out.size));have HA:=jX (HA.out.later hb);have Bga:=jX ((hb.block ga (yaa Bga.out)).trans Bga.out);clear hb HK;iterate 7 (first|(refine gV ?_;go_simp)|(refine gS ?_;go_simp))
  refine gX ⟨ga,0,none⟩ (HLr.out _ _ Bga.out) ?_;go_simp;refine gE 51 #[.agg (kC t)] (HF.out _) (fun w4 hb=>?_);go_simp;refine fO ?_;have HB:=jX (HB.out.trans (Below.mono hb HB.out.size));have HA:=jX (HA.out.later hb);have Bga:=jX ((hb.block ga (yaa Bga.out)).trans Bga.out);clear hb HF;iterate 2 (first|(refine gV ?_;go_simp)|(refine gS ?_;go_simp))
  refine fO ?_;have HS:=jX (Steps_s l w4 _ HA.out);go_wp2_with fail;refine (HS.out).mono ?_;rintro e w5 ⟨xa,xc,svs,rfl,hst,hgd,hso,hln,hb⟩;dsimp only;have HB:=jX (HB.out.trans (Below.mono hb HB.out.size));have HR:=jX hst;have Bga:=jX ((hb.block ga (yaa Bga.out)).trans Bga.out);have h1:0<svs.length:=by omega
  have h4:svs.length≤4:=by omega
  have hh:∀ i,Hs (sAt (stS svs) i):=fun i=>by rw [hso];exact steps_hs l i
  have hp:∀ i,0≤(sAt (stS svs) i).g∧(sAt (stS svs) i).a≤(sAt (stS svs) i).b:=fun i=>by
   by_cases hi:i<svs.length
   ·rw [ybZ hi]
    exact hgd.pos _ (List.mem_map_of_mem (List.getElem_mem hi))
   unfold sAt;rw [List.getD_eq_getElem?_getD,List.getElem?_eq_none (by unfold stS;rw [List.length_map];omega)];exact ⟨Rat.le_refl,Rat.le_refl⟩
  have hsk:=StsOk.at _ hgd.ok;have htb:=Hb.small Ht.out;have hA:=fun i=>yex hsk hh h4 i;have X0:Hid (sAt (stS svs) 0=svs[0].s):=jX (ybZ h1);have hg0:FitQ 24 (sAt (stS svs) 0).g:=ybI (hsk.g 0);have C2:=jX (fun u sv (h:StR u sv svs)=>LivP.row (live_p svs hgd h1 h4 u sv h));have CF:=jX (fun (z:K) (hz:Hb 64 z) (hl:holds (livAt (sAt (stS svs)) svs.length 0) z=true) u sv gl cl (h:StR u sv svs) (k:RowL u (.slice (some ⟨gl,0,none⟩) svs.length cl) svs.length (livAt (sAt (stS svs)) svs.length))=>(from_c svs hgd hh h1 h4 z hz u sv h gl cl k).mono fun e u' hf=>fr_split hf fun i hi=>(yhu hsk h4 hh hp hz hl i hi).2.1)
  have CH:=jX (fun (z:K) (hz:Hb 64 z) (hl:holds (livAt (sAt (stS svs)) svs.length 0) z=true) u sv tv (h:StR u sv svs) (k:KR u tv (frmL (sAt (stS svs)) (livAt (sAt (stS svs)) svs.length) z svs.length))=>show Calls prog 64 #[sv,tv] u (BPost u true) from by
   have:=rholds_c svs _ hgd h1 h4 (yew _ _ _ _) 50017 (by decide) (frmL_sm hsk hh hA hz h4) u sv tv h k;rw [frm_all hsk hh h4 hp hz hl] at this
   exact this)
  have CY:=jX (fun hl=>CF.out t htb hl);have CZ:=jX (fun hl=>CH.out t htb hl);have CP:=jX (fun I hI=>live_pick hsk hh h4 I hI);obtain⟨cv,hcv⟩:∃ cv,decide (combK 3 [(⟨⟨t,false⟩,⟨mvK (sAt (stS svs) 0).g t,true⟩⟩:Iv K)] (sAt (stS svs) 0).d=[])=cv:=⟨_,rfl⟩
  have CN:=jX (fun (hl:holds (livAt (sAt (stS svs)) svs.length 0) t=false) (hc:cv=true)=>show 1<svs.length∧∀ u sv gl cl,StR u sv svs→RowL u (.slice (some ⟨gl,0,none⟩) svs.length cl) svs.length (livAt (sAt (stS svs)) svs.length)→Calls prog 65 #[sv,.slice (some ⟨gl,0,none⟩) svs.length cl,kv t] u (fun e u'=>Below u.heap.size u u'∧e = .returned (.tuple #[.slice none 0 0,.bool false])) from by
   rw [← hcv,decide_eq_true_iff] at hc;obtain⟨g1,g2⟩:=frm_no hsk h4 (k:=8) (by decide) h1 hp Ht.out hl hc
   exact ⟨g1,fun u sv gl cl h k=>(from_c svs hgd hh h1 h4 t htb u sv h gl cl k).mono fun e u' hf=>fr_no hf g1 g2⟩)
  have HSh:=jX (ycC Ht.out (by decide) hg0);have HLi:=jX (fun u=>one_ls (mv_ge Ht.out (by decide) hg0 (hp 0).1) u);have HBd:=jX (yeJ t (mvK (sAt (stS svs) 0).g t));have HCv:=jX (fun u v y (h:Ls u [(v,(sAt (stS svs) 0).d),(y,[(⟨⟨t,false⟩,⟨mvK (sAt (stS svs) 0).g t,true⟩⟩:Iv K)])])=>h.cov (List.mem_cons_self ..) (List.mem_cons_of_mem _ (List.mem_cons_self ..)));rw [hcv] at HCv;obtain⟨I,hI⟩:∃ I:Iv K,(⟨⟨t,false⟩,⟨mvK (sAt (stS svs) 0).g t,true⟩⟩:Iv K)=I:=⟨_,rfl⟩;rw [hI] at HBd HLi HCv;rw [show kv t = .agg (kC t) from rfl,show kv (mvK (sAt (stS svs) 0).g t) = .agg (kC (mvK (sAt (stS svs) 0).g t)) from rfl] at HBd
  have C3:=jX (fun u v (h:Ls u [(v,livAt (sAt (stS svs)) svs.length 0)])=>h.cont (List.mem_singleton.2 rfl) t);rw [show kv t = .agg (kC t) from rfl] at C3 CY CN
  have hlen:(livAt (sAt (stS svs)) svs.length 0).length≤10000:=le10 (n:=4960) (yhJ hsk.few h1 h4 (svs.length-1-0) (by omega)) (yet _) (by decide);have hbn:((svs.length:Int) != (svs.length:Int))=false:=by simp
  clear hb HS HA hst hgd hso hln hi h0 hh hp hsk htb hA hg0 hcv hI Ht;obtain⟨s0,hs0⟩:∃ s0,sAt (stS svs) 0=s0:=⟨_,rfl⟩;rw [hs0] at X0 HSh HBd HCv;clear hs0;generalize livAt (sAt (stS svs)) svs.length=F at *;go_wp2_with fail;refine (C2.out _ _ HR.out).mono ?_;rintro e w6 ⟨gl,cl,rfl,hrow,hb⟩;dsimp only;have HB:=jX (HB.out.trans (Below.mono hb HB.out.size));have HR:=jX (HR.out.grow hb);have HL:=jX hrow;have Bga:=jX ((hb.block ga (yaa Bga.out)).trans Bga.out);clear hb hrow C2;obtain⟨hgl,ma,mc,q,hlm⟩:=HL.out.get h1;by_cases hz:(F 0).length=0
  ·have hgt:¬ (0:Int)<((F 0).length:Int):=by omega
   clear CF CH CP hlen hlm;go_wp2_with fail;clear q hgl hgt hz;have hgaV:=yaa Bga.out;obtain⟨hgl,ma,mc,q,hlm⟩:=HL.out.get h1;have HQ:=jX q;have HLm:=jX hlm;clear q hlm;go_upto_region 11 with (fail)
   refine yae (S:=fun u=>Below (World.heap w6).size w6 u) 4 (by kernel_rfl) (by kernel_rfl) (fun _ _ d _ _ h=>by cases d<;>exact h) ?_;have hS0:=(Keep.drew [] w6).bz;generalize World.drew w6=u2 at *;refine tV 0 hS0 ?_;go_simp;refine tV 1 hS0 ?_;go_simp;refine' jG (v:=_) 2 hS0 (fun w hw=>?htaa2) (fun K hK=>?ktaa2)
   case htaa2=>(have q:=(World.cell?_of_block (hw.block gl hgl)).trans HQ.out;go_simp;try rfl)
   go_simp;go_step
   refine tX 3 ⟨ga,0,none⟩ hS0 (fun w hw=>HLr.out _ _ ((hw.block ga hgaV).trans Bga.out)) ?_;go_simp;refine ⟨by kernel_rfl,?_⟩;simp only [List.drop_succ_cons,List.drop_zero];refine wE 56 #[.slice ma (List.length (F 0)) mc,.agg (kC t)] (C3.out _ _ (HLm.out.grow hS0)) (fun y1 hb=>?_);go_simp;refine fO ?_;have hS0:=hS0.trans (Below.mono hb hS0.size);have HB:=jX (HB.out.trans (Below.mono hS0 HB.out.size));have HR:=jX (HR.out.grow hS0);have HL:=jX (HL.out.grow hS0);have Bga:=jX ((hS0.block ga hgaV).trans Bga.out);clear hS0 hb HQ HLm hgl hgaV C3;cases hh0:holds (F 0) t with
   | true =>
    have C4:=jX (CY.out hh0);have C5:=jX (CZ.out hh0);clear CY CZ CN hh0;generalize frmL (sAt (stS svs)) F t svs.length=ts at *;go_upto_region 12 with (fail)
    refine wp_region_lit ?_;refine wV ?_;go_simp;refine wV ?_;go_simp;refine wX (v:=.agg (kC t)) ⟨ga,0,none⟩ ((HLr.out _ _ Bga.out)) ?_;go_simp;refine wpList_plain (by rfl) (fun K hK=>?_);refine yaf 65 #[.slice xa svs.length xc,.slice (some ⟨gl,0,none⟩) svs.length cl,.agg (kC t)] (yaA _ _ _ _ rfl (by simp only [List.map_toArray,List.map_cons,List.map_nil];rfl) (by rfl)) ?_;refine (C4.out _ _ _ _ HR.out HL.out).mono ?_;rintro e9 y2 ⟨hb,a8,c8,rfl,hkr⟩;refine ⟨_,rfl,?_⟩;go_simp;go_step
    have HB:=jX (HB.out.trans (Below.mono hb HB.out.size));have HR:=jX (HR.out.grow hb);have HKr:=jX hkr;clear hb hkr C4 HL Bga HLr;go_upto_region 13 with (fail)
    refine wp_region_lit ?_;iterate 4 (first|(refine gV ?_;go_simp)|(refine gS ?_;go_simp))
    refine gE 64 #[.slice xa svs.length xc,.slice a8 svs.length c8] (C5.out _ _ _ HR.out HKr.out) (fun y3 hb=>?_);go_simp;refine fO ?_;have HB:=jX (HB.out.trans (Below.mono hb HB.out.size));clear hb C5 HR HKr;iterate 1 (first|(refine gV ?_;go_simp)|(refine gS ?_;go_simp))
    refine fO ?_;go_wp2_with fail;go_ret
    exact ⟨rfl,HB.out⟩
   | false =>
    obtain⟨g,o,rfl,hg,hat⟩:=StR.elem HR.out 0 h1;have hlx:=HR.out.ls (List.getElem_mem h1);rw [Nat.zero_mul,Nat.add_zero] at hat;have Hat:=jX hat;have HD0:=jX hat.d0;have HX:=jX hlx;have CN:=jX (CN.out hh0);clear hat hlx hh0 CY CZ;have hx0:=X0.out;generalize svs[0]=x at *;subst hx0;have hxv:x.v = .slice x.a x.s.d.length x.c:=rfl;rw [hxv] at HX;clear hxv;have hgaV:=yaa Bga.out;go_upto_region 14 with (fail)
    refine yae (S:=fun u=>Below y1.heap.size y1 u) 14 (by kernel_rfl) (by kernel_rfl) (fun _ _ d _ _ h=>by cases d<;>exact h) ?_;have hS0:=(Keep.drew [] y1).bz;generalize World.drew y1=u2 at *;refine tV 0 hS0 ?_;go_simp;refine tV 1 hS0 ?_;go_simp;refine tV 2 hS0 ?_;go_simp;refine' jG (v:=_) 3 hS0 (fun w hw=>?htba3) (fun K hK=>?ktba3)
    case htba3=>(have q:World.cell? _ ⟨g,o,none⟩=some (Value.slice x.a x.s.d.length x.c):=(World.cell?_of_block (hw.block g hg)).trans HD0.out;go_simp;try rfl)
    go_simp;go_step
    refine tX 4 ⟨ga,0,none⟩ hS0 (fun w hw=>HLr.out _ _ ((hw.block ga hgaV).trans Bga.out)) ?_;go_simp;refine tX 5 ⟨ga,0,none⟩ hS0 (fun w hw=>HLr.out _ _ ((hw.block ga hgaV).trans Bga.out)) ?_;go_simp;refine tV 6 hS0 ?_;go_simp;refine tV 7 hS0 ?_;go_simp;refine tV 8 hS0 ?_;go_simp;refine tX 9 ⟨g,o+1,none⟩ hS0 (fun w hw=>(Hat.out.keep (hw.block g hg)).lg) ?_;go_simp;refine uQ 10 54 #[.agg (kC t),.agg (rC x.s.g)] hS0 (HSh.out _) (fun u3 hS0 _=>?_);go_simp;refine yaI (v:=iv I) 11 (by rfl) (by decide) (by kernel_rfl) (by kernel_rfl) (by rfl) hS0 (fun w hw=>yaC 32 #[(0,.tmp 99),(1,.tmp 105)] #[(0,.agg (kC t)),(1,.agg (kC (mvK x.s.g t)))] (iC I) rfl (by simp only [List.map_toArray,List.map_cons,List.map_nil];rfl) HBd.out) (fun K hK=>?_);go_simp;go_step
    refine jP 12 (fun K hK=>?_);refine ybK (.slice (some ⟨u3.heap.size,0,none⟩) 1 1) (u3.alloc (.cells (iC I) 32)) (yaV 22 1 #[(0,.tmp 106)] #[(0,iv I)] _ rfl (by simp only [List.map_toArray,List.map_cons,List.map_nil];rfl) (ybl _ _)) ?_;obtain⟨u4,gi,e3,e4,k3,hl3⟩:=HLi.out u3;rw [e3,e4];have hS0:=hS0.trans (Below.mono k3.bz hS0.size);have Hl3:=jX hl3;clear e3 e4 k3 hl3;go_simp;refine hK _ _ hS0 ?_;clear hK K;refine uR 13 50 #[.slice x.a x.s.d.length x.c,.slice (some ⟨gi,0,none⟩) 1 1] hS0 (HCv.out _ _ _ ((HX.out.grow hS0).one Hl3.out)) (fun u5 hS0 hb=>?_);go_simp;refine ⟨by kernel_rfl,?_⟩;simp only [List.drop_succ_cons,List.drop_zero];have HB:=jX (HB.out.trans (Below.mono hS0 HB.out.size));have HR:=jX (HR.out.grow hS0);have HL:=jX (HL.out.grow hS0);have Bga:=jX ((hS0.block ga hgaV).trans Bga.out);clear hS0 hb HX Hl3 HCv HBd HLi HSh HD0 Hat hgaV;cases hcv:cv with
    | false =>
     go_wp2_with fail;go_ret
     exact ⟨rfl,HB.out⟩
    | true =>
     obtain⟨hn1,C6⟩:=CN.out hcv;have C6:=jX C6;have hn1i:(1:Int)<(svs.length:Int):=by omega
     clear hcv;go_upto_region 16 with (fail)
     refine wp_region_lit ?_;refine wV ?_;go_simp;refine wV ?_;go_simp;refine wX (v:=.agg (kC t)) ⟨ga,0,none⟩ ((HLr.out _ _ Bga.out)) ?_;go_simp;refine wpList_plain (by rfl) (fun K hK=>?_);refine yaf 65 #[.slice (some ⟨g,o,none⟩) svs.length xc,.slice (some ⟨gl,0,none⟩) svs.length cl,.agg (kC t)] (yaA _ _ _ _ rfl (by simp only [List.map_toArray,List.map_cons,List.map_nil];rfl) (by rfl)) ?_;refine (C6.out _ _ _ _ HR.out HL.out).mono ?_;rintro e9 y4 ⟨hb,rfl⟩;refine ⟨_,rfl,?_⟩;go_simp;go_step
     have HB:=jX (HB.out.trans (Below.mono hb HB.out.size));clear hb C6 HL HR Bga HLr;go_wp2_with fail;go_ret
     exact ⟨rfl,HB.out⟩
  have hgt:(0:Int)<((F 0).length:Int):=by omega
  obtain⟨r,hr⟩:∃ r,n % (F 0).length=r:=⟨_,rfl⟩;have hr2:r<(F 0).length:=by rw [← hr];exact Nat.mod_lt _ (by omega)
  have hrm:=yiX n (F 0).length r (by omega) hr;have hri:(r:Int)<((F 0).length:Int):=by omega
  have hne:(F 0).length≠0:=by omega
  obtain⟨hpk,hpb,hph⟩:=CP.out _ (List.getElem_mem hr2);obtain⟨gn,on,rfl,hgn,hatn⟩:=IvR.elem (hlm _ (List.mem_singleton.2 rfl)).1 r hr2;have C7:=jX (CF.out _ hpb hph);have C8:=jX (CH.out _ hpb hph);have HPk:=jX hpk;generalize (F 0)[r]=J at *;obtain⟨p,hpp⟩:∃ p,on+r*20=p:=⟨_,rfl⟩;rw [hpp] at hatn;have HRm:=jX hrm;have HRi:=jX hri;have HNe:=jX hne;have HPp:=jX hpp;clear hrm hri hne hpp;have HLJ:=jX (fun (u:World) (h:u.heap[gn]? = w6.heap[gn]?)=>show (loadVar 32 ⟨gn,p,none⟩).run prog u = .ok (iv J) u from yaJ _ _ _ _ (fun k v hk=>(World.cell?_of_block h).trans (hatn k v hk)))
  have HQ:=jX q;clear hpk hpb hph CP CF CH hatn hlm hr hlen hr2 hz;obtain⟨nn,hnn⟩:∃ nn,(F 0).length=nn:=⟨_,rfl⟩;rw [hnn] at q hgt HQ HRm HRi HNe;have hgn2:0<nn:=by omega
  clear hnn;generalize ybi J=z at *;go_upto_region 8 with (fail)
  refine yae (S:=fun u=>Below w6.heap.size w6 u) 20 (by kernel_rfl) (by kernel_rfl) (fun _ _ d _ _ h=>by cases d<;>exact h) ?_;have hS0:=(Keep.drew [] w6).bz;generalize World.drew w6=u2 at *;refine tV 0 hS0 ?_;go_simp;refine tV 1 hS0 ?_;go_simp;refine tV 2 hS0 ?_;go_simp;refine tV 3 hS0 ?_;go_simp;refine' jG (v:=_) 4 hS0 (fun w hw=>?hpa4) (fun K hK=>?kpa4)
  case hpa4=>(have q:=(World.cell?_of_block (hw.block gl hgl)).trans HQ.out;go_simp;try rfl)
  go_simp;go_step
  refine tV 5 hS0 ?_;go_simp;refine tV 6 hS0 ?_;go_simp;refine tV 7 hS0 ?_;go_simp;refine tV 8 hS0 ?_;go_simp;refine' jG (v:=_) 9 hS0 (fun w hw=>?hpa9) (fun K hK=>?kpa9)
  case hpa9=>(have q:=(World.cell?_of_block (hw.block gl hgl)).trans HQ.out;go_simp;try rfl)
  go_simp;go_step
  refine tV 10 hS0 ?_;go_simp;refine' jG (v:=_) 11 hS0 (fun w hw=>?hpz11) (fun K hK=>?kpz11)
  case hpz11=>(have hrm:=HRm.out;go_simp;exact if_neg HNe.out)
  go_simp;go_step
  refine' jG (v:=_) 12 hS0 (fun w hw=>?hpa12) (fun K hK=>?kpa12)
  case hpa12=>(have hpp:=And.intro HRi.out HPp.out;go_simp;try rfl)
  go_simp;go_step
  refine tX 13 ⟨gn,p,none⟩ hS0 (fun w hw=>HLJ.out _ (hw.block gn hgn)) ?_;go_simp;refine uR 14 23 #[iv J] hS0 (HPk.out _) (fun u3 hS0 hb=>?_);go_simp;refine jP 15 (fun K hK=>?_);refine yaf 65 #[.slice xa svs.length xc,.slice (some ⟨gl,0,none⟩) svs.length cl,kv z] (yaA _ _ _ _ rfl (by simp only [List.map_toArray,List.map_cons,List.map_nil];rfl) (by rfl)) ?_;refine (C7.out _ _ _ _ (HR.out.grow hS0) (HL.out.grow hS0)).mono ?_;rintro e u4 ⟨hb,a8,c8,rfl,hkr⟩;have hS0:=hS0.trans (Below.mono hb hS0.size);refine ⟨_,rfl,?_⟩;go_simp;refine hK _ _ hS0 ?_;clear hK K;refine tV 16 hS0 ?_;go_simp;refine tV 17 hS0 ?_;go_simp;refine tV 18 hS0 ?_;go_simp;refine tV 19 hS0 ?_;go_simp;refine ⟨by kernel_rfl,?_⟩;simp only [List.drop_succ_cons,List.drop_zero];have HB:=jX (HB.out.trans (Below.mono hS0 HB.out.size));have HR:=jX (HR.out.grow hS0);have HL:=jX (HL.out.grow hS0);have Bga:=jX ((hS0.block ga (yaa Bga.out)).trans Bga.out);have HKr:=jX hkr;clear hS0 hb hkr C7 HPk HLJ HQ hgn hgl HRm HRi HNe HPp hgt hgn2 q;go_upto_region 9 with (fail)
  refine wp_region_lit ?_;iterate 5 (first|(refine gV ?_;go_simp)|(refine gS ?_;go_simp))
  refine gE 64 #[.slice xa svs.length xc,.slice a8 svs.length c8] (C8.out _ _ _ HR.out HKr.out) (fun u6 hb=>?_);go_simp;refine fO ?_;have HB:=jX (HB.out.trans (Below.mono hb HB.out.size));have HR:=jX (HR.out.grow hb);have HL:=jX (HL.out.grow hb);have Bga:=jX ((hb.block ga (yaa Bga.out)).trans Bga.out);clear hb C8 HKr;iterate 2 (first|(refine gV ?_;go_simp)|(refine gS ?_;go_simp))
  refine fO ?_;go_wp2_with fail;have hgaV:=yaa Bga.out;obtain⟨hgl,ma,mc,q,hlm⟩:=HL.out.get h1;have HQ:=jX q;have HLm:=jX hlm;clear q hlm;go_upto_region 11 with (fail)
  refine yae (S:=fun u=>Below (World.heap u6).size u6 u) 4 (by kernel_rfl) (by kernel_rfl) (fun _ _ d _ _ h=>by cases d<;>exact h) ?_;have hS0:=(Keep.drew [] u6).bz;generalize World.drew u6=u2 at *;refine tV 0 hS0 ?_;go_simp;refine tV 1 hS0 ?_;go_simp;refine' jG (v:=_) 2 hS0 (fun w hw=>?htab2) (fun K hK=>?ktab2)
  case htab2=>(have q:=(World.cell?_of_block (hw.block gl hgl)).trans HQ.out;go_simp;try rfl)
  go_simp;go_step
  refine tX 3 ⟨ga,0,none⟩ hS0 (fun w hw=>HLr.out _ _ ((hw.block ga hgaV).trans Bga.out)) ?_;go_simp;refine ⟨by kernel_rfl,?_⟩;simp only [List.drop_succ_cons,List.drop_zero];refine wE 56 #[.slice ma (List.length (F 0)) mc,.agg (kC t)] (C3.out _ _ (HLm.out.grow hS0)) (fun y1 hb=>?_);go_simp;refine fO ?_;have hS0:=hS0.trans (Below.mono hb hS0.size);have HB:=jX (HB.out.trans (Below.mono hS0 HB.out.size));have HR:=jX (HR.out.grow hS0);have HL:=jX (HL.out.grow hS0);have Bga:=jX ((hS0.block ga hgaV).trans Bga.out);clear hS0 hb HQ HLm hgl hgaV C3;cases hh0:holds (F 0) t with
  | true =>
   have C4:=jX (CY.out hh0);have C5:=jX (CZ.out hh0);clear CY CZ CN hh0;generalize frmL (sAt (stS svs)) F t svs.length=ts at *;go_upto_region 12 with (fail)
   refine wp_region_lit ?_;refine wV ?_;go_simp;refine wV ?_;go_simp;refine wX (v:=.agg (kC t)) ⟨ga,0,none⟩ ((HLr.out _ _ Bga.out)) ?_;go_simp;refine wpList_plain (by rfl) (fun K hK=>?_);refine yaf 65 #[.slice xa svs.length xc,.slice (some ⟨gl,0,none⟩) svs.length cl,.agg (kC t)] (yaA _ _ _ _ rfl (by simp only [List.map_toArray,List.map_cons,List.map_nil];rfl) (by rfl)) ?_;refine (C4.out _ _ _ _ HR.out HL.out).mono ?_;rintro e9 y2 ⟨hb,a8,c8,rfl,hkr⟩;refine ⟨_,rfl,?_⟩;go_simp;go_step
   have HB:=jX (HB.out.trans (Below.mono hb HB.out.size));have HR:=jX (HR.out.grow hb);have HKr:=jX hkr;clear hb hkr C4 HL Bga HLr;go_upto_region 13 with (fail)
   refine wp_region_lit ?_;iterate 4 (first|(refine gV ?_;go_simp)|(refine gS ?_;go_simp))
   refine gE 64 #[.slice xa svs.length xc,.slice a8 svs.length c8] (C5.out _ _ _ HR.out HKr.out) (fun y3 hb=>?_);go_simp;refine fO ?_;have HB:=jX (HB.out.trans (Below.mono hb HB.out.size));clear hb C5 HR HKr;iterate 1 (first|(refine gV ?_;go_simp)|(refine gS ?_;go_simp))
   refine fO ?_;go_wp2_with fail;go_ret
   exact ⟨rfl,HB.out⟩
  | false =>
   obtain⟨g,o,rfl,hg,hat⟩:=StR.elem HR.out 0 h1;have hlx:=HR.out.ls (List.getElem_mem h1);rw [Nat.zero_mul,Nat.add_zero] at hat;have Hat:=jX hat;have HD0:=jX hat.d0;have HX:=jX hlx;have CN:=jX (CN.out hh0);clear hat hlx hh0 CY CZ;have hx0:=X0.out;generalize svs[0]=x at *;subst hx0;have hxv:x.v = .slice x.a x.s.d.length x.c:=rfl;rw [hxv] at HX;clear hxv;have hgaV:=yaa Bga.out;go_upto_region 14 with (fail)
   refine yae (S:=fun u=>Below y1.heap.size y1 u) 14 (by kernel_rfl) (by kernel_rfl) (fun _ _ d _ _ h=>by cases d<;>exact h) ?_;have hS0:=(Keep.drew [] y1).bz;generalize World.drew y1=u2 at *;refine tV 0 hS0 ?_;go_simp;refine tV 1 hS0 ?_;go_simp;refine tV 2 hS0 ?_;go_simp;refine' jG (v:=_) 3 hS0 (fun w hw=>?htbb3) (fun K hK=>?ktbb3)
   case htbb3=>(have q:World.cell? _ ⟨g,o,none⟩=some (Value.slice x.a x.s.d.length x.c):=(World.cell?_of_block (hw.block g hg)).trans HD0.out;go_simp;try rfl)
   go_simp;go_step
   refine tX 4 ⟨ga,0,none⟩ hS0 (fun w hw=>HLr.out _ _ ((hw.block ga hgaV).trans Bga.out)) ?_;go_simp;refine tX 5 ⟨ga,0,none⟩ hS0 (fun w hw=>HLr.out _ _ ((hw.block ga hgaV).trans Bga.out)) ?_;go_simp;refine tV 6 hS0 ?_;go_simp;refine tV 7 hS0 ?_;go_simp;refine tV 8 hS0 ?_;go_simp;refine tX 9 ⟨g,o+1,none⟩ hS0 (fun w hw=>(Hat.out.keep (hw.block g hg)).lg) ?_;go_simp;refine uQ 10 54 #[.agg (kC t),.agg (rC x.s.g)] hS0 (HSh.out _) (fun u3 hS0 _=>?_);go_simp;refine yaI (v:=iv I) 11 (by rfl) (by decide) (by kernel_rfl) (by kernel_rfl) (by rfl) hS0 (fun w hw=>yaC 32 #[(0,.tmp 99),(1,.tmp 105)] #[(0,.agg (kC t)),(1,.agg (kC (mvK x.s.g t)))] (iC I) rfl (by simp only [List.map_toArray,List.map_cons,List.map_nil];rfl) HBd.out) (fun K hK=>?_);go_simp;go_step
   refine jP 12 (fun K hK=>?_);refine ybK (.slice (some ⟨u3.heap.size,0,none⟩) 1 1) (u3.alloc (.cells (iC I) 32)) (yaV 22 1 #[(0,.tmp 106)] #[(0,iv I)] _ rfl (by simp only [List.map_toArray,List.map_cons,List.map_nil];rfl) (ybl _ _)) ?_;obtain⟨u4,gi,e3,e4,k3,hl3⟩:=HLi.out u3;rw [e3,e4];have hS0:=hS0.trans (Below.mono k3.bz hS0.size);have Hl3:=jX hl3;clear e3 e4 k3 hl3;go_simp;refine hK _ _ hS0 ?_;clear hK K;refine uR 13 50 #[.slice x.a x.s.d.length x.c,.slice (some ⟨gi,0,none⟩) 1 1] hS0 (HCv.out _ _ _ ((HX.out.grow hS0).one Hl3.out)) (fun u5 hS0 hb=>?_);go_simp;refine ⟨by kernel_rfl,?_⟩;simp only [List.drop_succ_cons,List.drop_zero];have HB:=jX (HB.out.trans (Below.mono hS0 HB.out.size));have HR:=jX (HR.out.grow hS0);have HL:=jX (HL.out.grow hS0);have Bga:=jX ((hS0.block ga hgaV).trans Bga.out);clear hS0 hb HX Hl3 HCv HBd HLi HSh HD0 Hat hgaV;cases hcv:cv with
   | false =>
    go_wp2_with fail;go_ret
    exact ⟨rfl,HB.out⟩
   | true =>
    obtain⟨hn1,C6⟩:=CN.out hcv;have C6:=jX C6;have hn1i:(1:Int)<(svs.length:Int):=by omega
    clear hcv;go_upto_region 16 with (fail)
    refine wp_region_lit ?_;refine wV ?_;go_simp;refine wV ?_;go_simp;refine wX (v:=.agg (kC t)) ⟨ga,0,none⟩ ((HLr.out _ _ Bga.out)) ?_;go_simp;refine wpList_plain (by rfl) (fun K hK=>?_);refine yaf 65 #[.slice (some ⟨g,o,none⟩) svs.length xc,.slice (some ⟨gl,0,none⟩) svs.length cl,.agg (kC t)] (yaA _ _ _ _ rfl (by simp only [List.map_toArray,List.map_cons,List.map_nil];rfl) (by rfl)) ?_;refine (C6.out _ _ _ _ HR.out HL.out).mono ?_;rintro e9 y4 ⟨hb,rfl⟩;refine ⟨_,rfl,?_⟩;go_simp;go_step
    have HB:=jX (HB.out.trans (Below.mono hb HB.out.size));clear hb C6 HL HR Bga HLr;go_wp2_with fail;go_ret
    exact ⟨rfl,HB.out⟩
end
end Go.Proofs.YtpgffjjpiafhpaaGreatDoor
