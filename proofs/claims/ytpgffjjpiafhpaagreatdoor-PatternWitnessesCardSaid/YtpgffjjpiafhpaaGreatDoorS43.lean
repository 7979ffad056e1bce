/- Parts of a proof: Bq Br. -/
import Derived.Test.YtpgffjjpiafhpaaGreatDoorS42
import Derived.Test.YtpgffjjpiafhpaaGreatDoorS15
set_option linter.unusedVariables false
set_option linter.unusedSimpArgs false
set_option maxRecDepth 100000
set_option maxHeartbeats 8000000
namespace Go.Proofs.YtpgffjjpiafhpaaGreatDoor
open Go.RowKit Tryz
section
open Classical
abbrev OBK (w0 w:World) (v:Value) (l:List K):Prop:=OB (fun x:K=>kcells x.1) 30 9 w0 w v l
theorem OBK.app {w0 w:World} {v:Value} {l:List K} (t:K) (h:OBK w0 w v l) (h9:l.length≤1000000) :
  ∃ u,w.alloc (.cells (kC t) 30)=u∧∃ v4 u4,(Builtin.append_ #[55,55] 55 #[v,.slice (some ⟨w.heap.size,0,none⟩) 1 1]).run prog u = .ok v4 u4∧OBK w0 u4 v4 (l++[t]):=by
 obtain⟨ub,gx,e3,e4,hz1,hkx,hx⟩:=KR.single t w;obtain⟨b,hbs,hoe,hback⟩:=(h.later hkx.bz).oe;obtain⟨v4,u4,hr4,ho4,hn4,_⟩:=KR.app' (ty:=55) hoe (.inr (by simp)) hx (by simp;omega);rw [e4];exact ⟨ub,e3,v4,u4,hr4,hback _ _ _ ho4⟩
theorem OBK.one (t:K) (w:World):∃ u g,w.alloc (.cells (kC t) 30)=u∧w.heap.size=g∧OBK w u (.slice (some ⟨g,0,none⟩) 1 1) [t]:=by
 obtain⟨u,g,e3,e4,hz1,hk,hx⟩:=KR.single t w;refine ⟨u,g,e3,e4,?_,?_,hk.bz⟩
 ·subst e3 e4
  exact yhZ (cur:=kC t) (fun x=>yaV x.1) rfl hx (World.alloc_heap_new w _) (Nat.le_refl _) (by decide) rfl
 intro g' hg';simp [Value.ownBlock] at hg';omega
theorem OBK.back {w0 w1 w:World} {v:Value} {l:List K} (h:OBK w1 w v l) (hb:Below w0.heap.size w0 w1):OBK w0 w v l :=
 ⟨h.row,fun g hg=>Nat.le_trans hb.size (h.base g hg),hb.trans (Below.mono h.keep hb.size)⟩
noncomputable def frmL (s:Nat→St) (A:Nat→List (Iv K)) (t:K) (n:Nat):List K:=(List.range n).map (frm s A t)
theorem ydg (s:Nat→St) (A:Nat→List (Iv K)) (t:K) (n:Nat):(frmL s A t n).length=n:=by
 unfold frmL;rw [List.length_map,List.length_range]
theorem yfv (s:Nat→St) (A:Nat→List (Iv K)) (t:K) (n:Nat):frmL s A t (n+1)=frmL s A t n++[frm s A t n]:=by
 unfold frmL;rw [List.range_succ,List.map_append];rfl
theorem ygs (s:Nat→St) (A:Nat→List (Iv K)) (t:K) {n i:Nat} (h:i<(frmL s A t n).length):(frmL s A t n)[i]=frm s A t i:=by
 have h2:i<((List.range n).map (frm s A t)).length:=h;show ((List.range n).map (frm s A t))[i]'h2=_
 rw [List.getElem_map,List.getElem_range]
theorem swp_one {k:Nat} {a b:Rat} {x:K} (hx:Sm k x) (hk:k≤60000) (ha:FitQ 24 a) (hb:FitQ 24 b) (hab:a≤b):swpK a b [(⟨⟨x,false⟩,⟨x,true⟩⟩:Iv K)]=[⟨⟨mvK a x,false⟩,⟨mvK b x,true⟩⟩]:=by
 refine yeq (l:=[⟨⟨mvK a x,false⟩,⟨mvK b x,true⟩⟩]) ⟨?_,trivial⟩;have:=mv_le hx (by omega) ha hb hab;rw [Bd.lt_def];dsimp only;grind
def FrPost (s:Nat→St) (A:Nat→List (Iv K)) (t:K) (n:Nat) (w:World) (e:Ending) (w':World):Prop :=
 Below w.heap.size w w'∧(((∀ i,i+1<n→nxt s A i (frm s A t i)≠[])∧∃ a c,e = .returned (.tuple #[.slice a n c,.bool true])∧KR w' (.slice a n c) (frmL s A t n)) ∨
  ((∃ i,i+1<n∧nxt s A i (frm s A t i)=[])∧e = .returned (.tuple #[.slice none 0 0,.bool false])))
theorem yeY {l:List (Iv K)} (h:0<l.length):hdK l=yaT l[0]:=by
 cases l with
 | nil=>cases h
 | cons I r=>rfl
theorem from_c (svs:List StV) (hg:Good (stS svs)) (hh:∀ i,Hs (sAt (stS svs) i)) (h1:0<svs.length) (h4:svs.length≤4) (t:K) (ht:Hb 64 t) (w:World) (sv:Value) (hr:StR w sv svs) (gl cl:Nat)
  (hl:RowL w (.slice (some ⟨gl,0,none⟩) svs.length cl) svs.length (livAt (sAt (stS svs)) svs.length)) :
  Calls prog 65 #[sv,.slice (some ⟨gl,0,none⟩) svs.length cl,kv t] w (FrPost (sAt (stS svs)) (livAt (sAt (stS svs)) svs.length) t svs.length w):=by
 obtain⟨xa,xc,rfl⟩:=hr.form;have HR:=jX hr;have HL:=jX hl;have HG:=jX hg;have HH:=jX hh;have HSt:=jX (StsOk.at _ hg.ok);have HA:=jX (fun i=>ydE HSt.out hh h4 i);have HT:=jX (yfR HSt.out hh HA.out ht);have HFew:=jX (fun i (hi:i<svs.length)=>show Few 4960 (livAt (sAt (stS svs)) svs.length i) from ygh HSt.out.few h1 h4 (svs.length-1-i) (by omega))
 clear hr hl hg hh ht;generalize livAt (sAt (stS svs)) svs.length=F at *;unfold kv;go_enter func65,ntmps65
 go_upto_region 1 with (fail)
 obtain⟨W,ga,hW,ega,Bga,hga,hgW,HkW⟩:=al1h w (.cells (kC t) 30);rw [← hW];try rw [ega]
 clear hW ega;have HB:=jX HkW.out.bz;refine wp_region_lit ?_;refine wX (v:=.agg (kC t)) ⟨ga,0,none⟩ ((yar _ _ _ _ (yen Bga.out))) (fun _ _=>?_);go_simp;go_step;obtain⟨w2,go,e3,e4,hob⟩:=OBK.one t W;refine yao (v:=.slice (some ⟨W.heap.size,0,none⟩) 1 1) (w':=W.alloc (.cells (kC t) 30)) (by rfl) (yaJ 55 1 #[(0,.tmp 13)] #[(0,kv t)] _ rfl (by simp only [List.map_toArray,List.map_cons,List.map_nil];rfl) (yeB _ _)) (fun K hK=>?_);rw [e3,e4];clear e3 e4;go_simp;go_step;have HO:=jX (OBK.back hob HB.out);clear hob HkW Bga hga hgW HB;go_wp2_with fail;go_loopw [8,9] (fun ov c wr=>∃ k:Nat,1≤k∧k≤svs.length∧c = .int .i64 (k:Int)∧OBK w wr ov (frmL (sAt (stS svs)) F t k)∧∀ i,i+1<k→nxt (sAt (stS svs)) F i (frm (sAt (stS svs)) F t i)≠[]) (fun _ c _=>svs.length-(intOf c).toNat)
 case atStart=>exact ⟨1,Nat.le_refl _,h1,rfl,HO.out,fun i h=>absurd h (by omega)⟩
 case round =>
  obtain⟨k,hk1,hk,rfl,ho,hne⟩:=hrel;rename World=>wr;obtain⟨po,pc,rfl⟩:=ho.form;have Hfl:=jX (ydg (sAt (stS svs)) F t k);rw [ydg] at ho ⊢;have HO:=jX ho;have HN:=jX hne;clear ho hne;by_cases hlt:k<svs.length
  ·obtain⟨j,hj⟩:∃ j,k=j+1:=⟨k-1,by omega⟩
   have hkc:(k:Int)<(svs.length:Int):=by omega
   have hjl:j<svs.length:=by omega
   have hsub:IntKind.i64.wrap ((k:Int)-1)=(j:Int):=by rw [show (k:Int)-1=(j:Int) by omega];exact IntWalk.i64_in _ (by omega)
   have hj1:(j:Int)<(svs.length:Int):=by omega
   have hj0:(0:Int)≤(j:Int):=by omega
   have hj2:(j:Int)<(k:Int):=by omega
   have Hj:=jX hj;clear hj;have HKp:=jX HO.out.keep;obtain⟨g,o,rfl,hg,hat⟩:=StR.elem (HR.out.grow HKp.out) k hlt;obtain⟨gy,oy,hge,hgy,haty⟩:=StR.elem (HR.out.grow HKp.out) j hjl;obtain⟨rfl,rfl⟩:gy=g∧oy=o:=by injection hge with hge;injection hge with h1 h2;exact ⟨h1.symm,h2.symm⟩
   have hrd:=HO.out.read;obtain⟨gt,ot,rfl,hgt,hatt⟩:=KR.elem hrd j (by rw [Hfl.out];have:=Hj.out;omega);rw [ygs] at hatt;clear hrd;obtain⟨hgl,ma,mc,q,hlm⟩:=(HL.out.grow HKp.out).get hlt;have hsk:=yaY hlt;have hsj:=yaY hjl;have HSab:=jX ((HG.out.pos _ (List.mem_map_of_mem (List.getElem_mem hlt))).2);have hxb:=HT.out j (by omega);have hz:=sz_le j (by omega);have hP:=yeF (i:=j) HSt.out HH.out HA.out (sz_ge j) hz hxb;have hnb:Hid (nxt (sAt (stS svs)) F j (frm (sAt (stS svs)) F t j)=combK 2 (F k) [winI (sAt (stS svs)) j (frm (sAt (stS svs)) F t j)]):=by unfold nxt;rw [← Hj.out];exact jX rfl
   have hfk:frm (sAt (stS svs)) F t k=hdK (nxt (sAt (stS svs)) F j (frm (sAt (stS svs)) F t j)):=by rw [Hj.out];rfl
   have hwin:Hid (swpK (svs[j].s.g+svs[k].s.a) (svs[j].s.g+svs[k].s.b) [(⟨⟨frm (sAt (stS svs)) F t j,false⟩,⟨frm (sAt (stS svs)) F t j,true⟩⟩:Iv K)]=[winI (sAt (stS svs)) j (frm (sAt (stS svs)) F t j)]):=by
    unfold winI;rw [← Hj.out,hsk,hsj];refine jX (swp_one hxb.sm (by omega) ?_ ?_ ?_)
    ·rw [← hsk,← hsj];exact ybU (HSt.out.g j) (HSt.out.a k)
    ·rw [← hsk,← hsj];exact ybU (HSt.out.g j) (HSt.out.b k)
    have:=HSab.out;grind
   have fyg:FitQ 8 svs[j].s.g:=by rw [← hsj];exact HSt.out.g j
   have fxa:FitQ 8 svs[k].s.a:=by rw [← hsk];exact HSt.out.a k
   have fxb:FitQ 8 svs[k].s.b:=by rw [← hsk];exact HSt.out.b k
   have hfew:=HFew.out k hlt;have hxs:=hxb.sm;generalize svs[k]=x at *;generalize svs[j]=y at *;obtain⟨tj,htj⟩:∃ tj,frm (sAt (stS svs)) F t j=tj:=⟨_,rfl⟩;rw [htj] at hatt hxb hP hnb hfk hwin hxs;have Htj:=jX htj;clear htj;obtain⟨NX,hNX⟩:∃ NX,nxt (sAt (stS svs)) F j tj=NX:=⟨_,rfl⟩;rw [hNX] at hnb hP hfk;have Hnx:=jX hNX;obtain⟨WI,hWI⟩:∃ WI,winI (sAt (stS svs)) j tj=WI:=⟨_,rfl⟩;rw [hWI] at hnb hwin;clear hWI hNX;have HP:=jX hP;have HFk:=jX hfk;clear hP hfk hsk hsj hxb
   have hnl:NX.length≤10000:=by
    rw [hnb.out];exact le10 (n:=4960+2) (hfew.comb ⟨[WI.f.pt,WI.l.pt],by simp,fun i hi=>by rw [List.mem_singleton] at hi;subst hi;exact ⟨by simp,by simp⟩⟩) (yaq _ _ _) (by omega)
   have HIn:=jX (fun u a b (h:Ls u [(a,F k)]) (h3:Ls u [(b,[WI])])=>by
    have:=h.interT h3 (by rw [← hnb.out];exact hnl);rw [← hnb.out] at this
    exact this)
   have HA1:=jX (fun u=>QAdd_c y.s.g x.s.a (fyg.mono (by decide)) (fxa.mono (by decide)) u);have HA2:=jX (fun u=>QAdd_c y.s.g x.s.b (fyg.mono (by decide)) (fxb.mono (by decide)) u);rw [yam,yam,yam] at HA1 HA2;have hab:y.s.g+x.s.a≤y.s.g+x.s.b:=by have:=HSab.out;grind
   have HSw:=jX (fun u v (h:Ls u [(v,[(⟨⟨tj,false⟩,⟨tj,true⟩⟩:Iv K)])])=>by
    have:=h.rsweep (k0:=szH j+17) (by omega) (fun s hs=>by rw [List.mem_singleton] at hs;subst hs;exact ⟨hxs,hxs⟩) (ybU fyg fxa) (ybU fyg fxb) hab (by rw [hwin.out];exact (show 1≤10000 by decide))
    rw [hwin.out] at this
    exact this)
   obtain⟨p,hp⟩:∃ p,oy+k*13=p:=⟨_,rfl⟩;obtain⟨pj,hpj⟩:∃ pj,oy+j*13=pj:=⟨_,rfl⟩;obtain⟨qj,hqj⟩:∃ qj,ot+j*9=qj:=⟨_,rfl⟩;rw [hp] at hat;rw [hpj] at haty;rw [hqj] at hatt;have Hat:=jX hat;have Haty:=jX haty;have HLt:=jX (fun (u:World) (h:u.heap[gt]? = wr.heap[gt]?)=>show (loadVar 30 ⟨gt,qj,none⟩).run prog u = .ok (.agg (kC tj)) u from yar _ _ _ _ (hatt.keep h))
   have HQ:=jX q;have HLm:=jX hlm;clear hat haty hatt hge hg q hlm fyg fxa fxb hab hfew hxs HSab hnb hwin;generalize F k=Fk at *;have HLi:=jX (fun u=>yiB (Std.le_refl tj) u);have HBd:=jX (yel tj tj);rw [show kv tj = .agg (kC tj) from rfl] at HBd
   obtain⟨I,hI⟩:∃ I:Iv K,(⟨⟨tj,false⟩,⟨tj,true⟩⟩:Iv K)=I:=⟨_,rfl⟩;rw [hI] at HBd HLi HSw;clear hI;generalize kC tj=TJ at *;generalize y.s.g+x.s.a=QA at *;generalize y.s.g+x.s.b=QB at *;go_upto_region 5 with (fail)
   refine yaA 26 [(10,28),(11,28)] (fun _=>.cells #[.bool false,.string ⟨#[]⟩,.bool false,.string ⟨#[]⟩] 28) (by kernel_rfl) (by kernel_rfl) (by kernel_rfl) (fun t ht ev w o ho=>by simp at ht;subst ht;exact ybN ev w o ho) ?_;intro U hU;have HX1:=jX (Haty.out.kg hgy hU);have HX2:=jX (Hat.out.ka hgy hU);have HX3:=jX (Hat.out.kb hgy hU);have Q1:Hid (∀ m:KW U,Calls prog 106 #[.agg (rC y.s.g),.agg (rC x.s.a)] (Wk U m) fun e w'=>e = .returned (.agg (rC QA))∧∃ m,w'=Wk U m):=fun m=>qk m (HA1.out _);have Q2:Hid (∀ m:KW U,Calls prog 106 #[.agg (rC y.s.g),.agg (rC x.s.b)] (Wk U m) fun e w'=>e = .returned (.agg (rC QB))∧∃ m,w'=Wk U m):=fun m=>qk m (HA2.out _);simp only [List.map_cons,List.map_nil,unal,isAl,if_true,if_false,Bool.false_eq_true,List.take_succ_cons,List.take_zero]
   repeat (first
    | go_big_quiet_skip
    | (go_big_quiet_want;first
     | (refine yaj _ _ _ (.agg (rC y.s.g)) rfl rfl (by rintro _ ⟨m,rfl⟩;exact HX1.out m) ?_;go_simp;go_big_quiet_on)|(refine yaj _ _ _ (.agg (rC x.s.a)) rfl rfl (by rintro _ ⟨m,rfl⟩;exact HX2.out m) ?_;go_simp;go_big_quiet_on)|(refine yaj _ _ _ (.agg (rC x.s.b)) rfl rfl (by rintro _ ⟨m,rfl⟩;exact HX3.out m) ?_;go_simp;go_big_quiet_on)
     | (go_big_quiet_op;first|go_big_quiet_on|go_big_quiet_call (first
      | (go_at_call 106;with_reducible exact (Q1).out _)|(go_at_call 106;with_reducible exact (Q2).out _)))))
   refine wpQuiet_nil ?_;intro p' hp1 hp2 w3 hk3 hz;have b5:=hz (10,28) (by simp);have b6:=hz (11,28) (by simp);have n56:p' 10≠p' 11:=fun h=>absurd (hp2 10 (by simp) 11 (by simp) h) (by decide);have h5:=hp1 10 (by simp);have h6:=hp1 11 (by simp);simp only [List.map_cons,List.map_nil,pl,List.drop_succ_cons,List.drop_zero];dsimp only at b5 b6;generalize p' 10=g5 at *;generalize p' 11=g6 at *;clear hz hp1 hp2 Q1 Q2 HX1 HX2 HX3 hU U p';refine wR g5 (rC QA) b5 (by exact q_size) (by rfl) (yaK _) (fun w4 b54 k4 _ _=>?_);go_simp;go_step;have b64:=k4.heap b6 (by simp;exact fun h=>n56 h.symm);refine wR g6 (rC QB) b64 (by exact q_size) (by rfl) (yaK _) (fun w5 b65 k5 _ _=>?_);go_simp;go_step;have B5:=jX (k5.heap b54 (by simp;exact n56));have B6:=jX b65;have hk4:=show Keep [] wr w4 from hk3.trans k4 (by simp;exact h5)
   have hbb:=(show Keep [] wr w5 from hk4.trans k5 (by simp;exact h6)).bz
   have HO:=jX (HO.out.later hbb);have HQ:=jX ((World.cell?_of_block (hbb.block gl hgl)).trans HQ.out);have HLm:=jX (HLm.out.grow hbb);have Ht5:=jX (hbb.block gt hgt);have hgt5:gt<w5.heap.size:=Nat.lt_of_lt_of_le hgt hbb.size;have hgl5:gl<w5.heap.size:=Nat.lt_of_lt_of_le hgl hbb.size;clear hbb hk4 k4 k5 b5 b6 b54 b64 b65 n56 hk3 h5 h6 HA1 HA2 Haty Hat HKp hgt hgl hgy;go_upto_region 6 with (fail)
   refine yad (S:=fun u=>Below w5.heap.size w5 u) 20 (by kernel_rfl) (by kernel_rfl) (fun _ _ d _ _ h=>by cases d<;>exact h) ?_;have hS0:=(Keep.drew [] w5).bz;generalize World.drew w5=u2 at *;refine tV 0 hS0 (fun _ _=>?_);go_simp;go_step;refine tV 1 hS0 (fun _ _=>?_);go_simp;go_step;refine tV 2 hS0 (fun _ _=>?_);go_simp;go_step;refine' jG (v:=_) 3 hS0 (fun w hw=>?hfa3) (fun K hK=>?kfa3)
   case hfa3=>(have q:=(World.cell?_of_block (hw.block gl hgl5)).trans HQ.out;go_simp;try rfl)
   go_simp;go_step;refine tV 4 hS0 (fun _ _=>?_);go_simp;go_step;refine tV 5 hS0 (fun _ _=>?_);go_simp;go_step;refine tV 6 hS0 (fun _ _=>?_);go_simp;go_step;refine tV 7 hS0 (fun _ _=>?_);go_simp;go_step;refine tX 8 ⟨gt,qj,none⟩ hS0 (fun w hw=>HLt.out _ ((hw.block gt hgt5).trans Ht5.out)) (fun _ _=>?_);go_simp;go_step;refine tV 9 hS0 (fun _ _=>?_);go_simp;go_step;refine tV 10 hS0 (fun _ _=>?_);go_simp;go_step;refine tV 11 hS0 (fun _ _=>?_);go_simp;go_step;refine tV 12 hS0 (fun _ _=>?_);go_simp;go_step;refine tX 13 ⟨gt,qj,none⟩ hS0 (fun w hw=>HLt.out _ ((hw.block gt hgt5).trans Ht5.out)) (fun _ _=>?_);go_simp;go_step;refine yaG (v:=iv I) 14 (by rfl) (by decide) (by kernel_rfl) (by kernel_rfl) (by rfl) hS0 (fun w hw=>yaB 32 #[(0,.tmp 53),(1,.tmp 58)] #[(0,.agg TJ),(1,.agg TJ)] (iC I) rfl (by simp only [List.map_toArray,List.map_cons,List.map_nil];rfl) HBd.out) (fun _ _=>?_);go_simp;go_step;refine tX 16 ⟨g5,0,none⟩ hS0 (fun w hw=>ybm ((hw.block g5 (yaa B5.out)).trans B5.out)) (fun _ _=>?_);go_simp;go_step;refine tX 17 ⟨g6,0,none⟩ hS0 (fun w hw=>ybm ((hw.block g6 (yaa B6.out)).trans B6.out)) (fun _ _=>?_);go_simp;go_step;refine jP 15 (fun K hK=>?_);refine ybR (.slice (some ⟨u2.heap.size,0,none⟩) 1 1) (u2.alloc (.cells (iC I) 32)) (yaJ 22 1 #[(0,.tmp 59)] #[(0,iv I)] _ rfl (by simp only [List.map_toArray,List.map_cons,List.map_nil];rfl) (ybd _ _)) ?_;obtain⟨u3,gi,e3,e4,k3,hl3⟩:=HLi.out u2;rw [e3,e4];have hS0:=hS0.trans (Below.mono k3.bz hS0.size);have Hl3:=jX hl3;clear e3 e4 k3 hl3;go_simp;refine hK _ _ hS0 ?_;clear hK K;refine jP 18 (fun K hK=>?_);refine yaf 61 #[.slice (some ⟨gi,0,none⟩) 1 1,.agg (rC QA),.agg (rC QB)] (yaE _ _ _ _ rfl (by simp only [List.map_toArray,List.map_cons,List.map_nil];rfl) (by rfl)) ?_;refine (HSw.out _ _ Hl3.out).mono ?_;rintro e u5 ⟨a5,c5,rfl,hb,hl5,_⟩;have hS0:=hS0.trans (Below.mono hb hS0.size);refine ⟨_,rfl,?_⟩;go_simp;refine hK _ _ hS0 ?_;clear hK K;refine jP 19 (fun K hK=>?_);refine yaf 108 #[.slice ma Fk.length mc,.slice a5 [WI].length c5] (yaE _ _ _ _ rfl (by simp only [List.map_toArray,List.map_cons,List.map_nil];rfl) (by rfl)) ?_;refine (HIn.out _ _ _ (HLm.out.grow hS0) hl5).mono ?_;rintro e u6 ⟨a6,c6,rfl,hb,hl6,_⟩;have hS0:=hS0.trans (Below.mono hb hS0.size);refine ⟨_,rfl,?_⟩;go_simp;refine hK _ _ hS0 ?_;clear hK K;refine ⟨by kernel_rfl,?_⟩;simp only [List.drop_succ_cons,List.drop_zero];have HO:=jX (HO.out.later hS0);have HL6:=jX hl6;clear hS0 hb hl6 hl5 HSw HIn HQ HLm B5 B6 HLi HBd Hl3 Ht5 hgt5 hgl5 HLt;by_cases hz:NX.length=0
   ·have hi:((NX.length:Int) == 0)=true:=by rw [beq_iff_eq];omega
    have hnil:NX=[]:=List.length_eq_zero_iff.1 hz
    have HXx:Hid (∃ i,i+1<svs.length∧nxt (sAt (stS svs)) F i (frm (sAt (stS svs)) F t i)=[]):=jX ⟨j,by have:=Hj.out;omega,by
     rw [Htj.out,Hnx.out]
     exact hnil⟩
    clear hz hnil;go_wp2_with fail;go_ret2
    exact ⟨HO.out.keep,.inr ⟨HXx.out,rfl⟩⟩
   have hi:((NX.length:Int) == 0)=false:=by rw [beq_eq_false_iff_ne];omega
   have h0i:(0:Int)<(NX.length:Int):=by omega
   have h0n:0<NX.length:=by omega
   obtain⟨gn,on,rfl,hgn,hatn⟩:=IvR.elem (HL6.out _ (List.mem_singleton.2 rfl)).1 0 h0n;obtain⟨HPk,_,_⟩:=HP.out _ (List.getElem_mem h0n);have hd:=yeY h0n;rw [Nat.zero_mul,Nat.add_zero] at hatn;rw [hd] at HFk;generalize NX[0]=J at *;have HPk:=jX HPk
   have HNe:=jX (fun i (hi:i+1<k+1)=>show nxt (sAt (stS svs)) F i (frm (sAt (stS svs)) F t i)≠[] from by
    by_cases hij:i+1<k
    ·exact HN.out i hij
    rw [show i=j by have:=Hj.out;omega,Htj.out,Hnx.out]
    exact fun h=>hz (by rw [h];rfl))
   have hfs:=yfv (sAt (stS svs)) F t k;rw [HFk.out] at hfs;have Hfs:=jX hfs;clear hz hd hfs HFk HN Hnx Htj;go_upto_region 9 with (fail)
   refine wp_region_lit ?_;refine wV (fun _ _=>?_);go_simp;go_step;refine wV (fun _ _=>?_);go_simp;go_step;refine wV (fun _ _=>?_);go_simp;go_step;refine wX (v:=iv J) ⟨gn,on,none⟩ ((yaz _ _ _ _ hatn)) (fun _ _=>?_);go_simp;go_step;refine wE 23 #[iv J] (HPk.out _) (fun w7 hb _ _=>?_);go_simp;go_step;have HO:=jX (HO.out.later hb);clear hb hatn hgn HPk HL6;obtain⟨u8,e8,v9,u9,hr9,ho9⟩:=OBK.app (yaT J) HO.out (by rw [Hfl.out];omega);refine yao (v:=.slice (some ⟨w7.heap.size,0,none⟩) 1 1) (w':=w7.alloc (.cells (kC (yaT J)) 30)) (by rfl) (yaJ 55 1 #[(0,.tmp 72)] #[(0,kv (yaT J))] _ rfl (by simp only [List.map_toArray,List.map_cons,List.map_nil];rfl) (yeB _ _)) (fun K hK=>?_);rw [e8];clear e8;go_simp;go_step;refine yao (by rfl) (yaQ (.tmp 68) (.tmp 73) 55 _ _ _ rfl rfl rfl hr9) (fun _ _=>?_);go_simp;go_step;clear hr9;rw [← Hfs.out] at ho9;have HO9:=jX ho9;clear ho9;go_wp2_with fail;go_roundw
   case rel=>exact ⟨k+1,by omega,by omega,congrArg (Value.int .i64) (by omega),HO9.out,HNe.out⟩
   case measure=>simp [intOf];omega
  obtain rfl:k=svs.length:=by omega
  have hkc:¬ ((svs.length:Int)<(svs.length:Int)):=by omega
  have hrd:=HO.out.read;have HRd:=jX hrd;clear hrd;go_wp2_with fail;go_ret2
  exact ⟨HO.out.keep,.inl ⟨HN.out,_,_,rfl,HRd.out⟩⟩
end
section
open Classical
noncomputable def wst (s:Nat→St) (n:Nat):K:=hdK (livAt s n 0)
section
variable {s:Nat→St} (h:StOk s) (hh:∀ i,Hs (s i)) {n:Nat} (hn:n≤4)
include h hh hn
theorem yeN (I:Iv K) (hI:I∈livAt s n 0):(∀ w,Calls prog 23 #[iv I] w fun e w'=>e = .returned (kv (yaT I))∧Bl w w')∧Hb 64 (yaT I)∧holds (livAt s n 0) (yaT I)=true:=by
 have hi:=ydE h hh hn 0 I hI;obtain⟨c,b,m⟩:=yit 60 64 2 1 512 (2 ^ 40) (by decide) (by decide) (by decide) (by decide) (by decide) (by decide) (by decide) (by decide) (by decide) I hi.1 hi.2 (by decide) (by decide) (by decide) (by decide);exact ⟨c,b,ygL hI (ygX ((yeD _).val I hI) m)⟩
end
theorem Witness_yes (svs:List StV) (hg:Good (stS svs)) (hh:∀ i,Hs (sAt (stS svs) i)) (h1:0<svs.length) (h4:svs.length≤4) (w:World) (sv:Value) (hr:StR w sv svs) (hp:∀ i,0≤(sAt (stS svs) i).g∧(sAt (stS svs) i).a≤(sAt (stS svs) i).b) (hne:livAt (sAt (stS svs)) svs.length 0≠[]) :
  Calls prog 66 #[sv] w fun e w'=>(∃ a c,e = .returned (.tuple #[.slice a svs.length c,.int .i64 0])∧KR w' (.slice a svs.length c) (frmL (sAt (stS svs)) (livAt (sAt (stS svs)) svs.length) (wst (sAt (stS svs)) svs.length) svs.length))∧Below w.heap.size w w':=by
 have HP:=jX (LivP.row (live_p svs hg h1 h4 w sv hr));obtain⟨xa,xc,rfl⟩:=hr.form;have HR:=jX hr;have HG:=jX hg;have HH:=jX hh;have HSt:=jX (StsOk.at _ hg.ok);have HA:=jX (fun i=>ydE HSt.out hh h4 i)
 have h00:0<(livAt (sAt (stS svs)) svs.length 0).length:=by
  cases e:livAt (sAt (stS svs)) svs.length 0 with
  | nil=>exact absurd e hne
  | cons I r=>exact Nat.succ_pos _
 obtain⟨hpk0,hb0,hl0⟩:=yeN HSt.out hh h4 _ (List.getElem_mem h00);have hws:wst (sAt (stS svs)) svs.length=yaT (livAt (sAt (stS svs)) svs.length 0)[0]:=yeY h00;rw [← hws] at hb0 hl0;have HT:=jX (yfR HSt.out hh HA.out hb0);have HLw:=jX (ygz HSt.out h4 hh hp hb0 hl0);have HFew:=jX (fun i (hi:i<svs.length)=>show Few 4960 (livAt (sAt (stS svs)) svs.length i) from ygh HSt.out.few h1 h4 (svs.length-1-i) (by omega))
 have HP0:=jX hpk0;have HW:=jX hws;clear hr hg hh hp hne hpk0 hb0 hl0 hws;generalize wst (sAt (stS svs)) svs.length=t at *;generalize livAt (sAt (stS svs)) svs.length=F at *;go_enter func66,ntmps66
 go_wp2_with fail;refine HP.out.mono ?_;rintro e w1 ⟨gl,cl,rfl,hrow,hb1⟩;dsimp only;have HB1:=jX hb1;have HL:=jX hrow;have HR:=jX (HR.out.grow hb1);clear hrow hb1 HP;go_wp2_with fail;go_loopw [6,20] (fun ov c wr=>∃ k:Nat,k≤svs.length∧c = .int .i64 (k:Int)∧OBK w1 wr ov (frmL (sAt (stS svs)) F t k)) (fun _ c _=>svs.length-(intOf c).toNat)
 case atStart=>exact ⟨0,Nat.zero_le _,rfl,OB.nil w1⟩
 case round =>
  obtain⟨k,hk,rfl,ho⟩:=hrel;rename World=>wr;obtain⟨po,pc,rfl⟩:=ho.form;have Hfl:=jX (ydg (sAt (stS svs)) F t k);rw [ydg] at ho ⊢;have HO:=jX ho;clear ho;by_cases hlt:k<svs.length
  ·have hkc:(k:Int)<(svs.length:Int):=by omega
   have HKp:=jX HO.out.keep;obtain⟨g,o,rfl,hg,hat⟩:=StR.elem (HR.out.grow HKp.out) k hlt;obtain⟨hgl,ma,mc,q,hlm⟩:=(HL.out.grow HKp.out).get hlt;have hsk:=yaY hlt;have HSab:=jX ((HG.out.pos _ (List.mem_map_of_mem (List.getElem_mem hlt))).2);have fxa:FitQ 8 svs[k].s.a:=by rw [← hsk];exact HSt.out.a k
   have fxb:FitQ 8 svs[k].s.b:=by rw [← hsk];exact HSt.out.b k
   generalize svs[k]=x at *;obtain⟨p,hp⟩:∃ p,o+k*13=p:=⟨_,rfl⟩;rw [hp] at hat;have HX:=jX (ycL wr g p x hat);have HQ:=jX q;have HLm:=jX hlm;clear hat q hlm;go_upto_region 7 with (fail)
   refine wp_region_lit ?_;refine wV (fun _ _=>?_);go_simp;go_step;refine wV (fun _ _=>?_);go_simp;go_step;refine wX (v:=.agg x.C) ⟨g,p,none⟩ (HX.out) (fun _ _=>?_);go_simp;go_step;refine wA (yhH _ _ _ rfl) (fun w3 gs e2 bgs hgs _ hk1 _ _=>?_);go_simp;go_step;refine wV (fun _ _=>?_);go_simp;go_step;refine wR gs x.C bgs (by exact ydq x) (by rfl) x.ones (fun w4 b4 k4 _ _=>?_);go_simp;go_step;clear HX;have hkk:=(show Keep [] wr w4 from hk1.trans k4 (by simp;omega)).bz
   have Bgs:=jX b4;have HO:=jX (HO.out.later hkk);have HQ:=jX ((World.cell?_of_block (hkk.block gl hgl)).trans HQ.out);have HLm:=jX (HLm.out.grow hkk);have hgl4:gl<w4.heap.size:=Nat.lt_of_lt_of_le hgl hkk.size;clear hk1 k4 b4 bgs e2 hgs hkk hg hgl HKp;have q:=HQ.out;by_cases hk0:k=0
   ·subst hk0
    have hgt0:¬ (0:Int)<((0:Nat):Int):=by decide
    have Hfs:Hid (frmL (sAt (stS svs)) F t (0+1)=frmL (sAt (stS svs)) F t 0++[yaT (F 0)[0]]):=jX (by rw [yfv,← HW.out];rfl);obtain⟨gn,on,rfl,hgn,hatn⟩:=IvR.elem (HLm.out _ (List.mem_singleton.2 rfl)).1 0 h00;rw [Nat.zero_mul,Nat.add_zero] at hatn;have HPk:=jX HP0.out;generalize F 0=NX at *;generalize NX[0]=J at *;have hi:((List.length NX:Int) == 0)=false:=by rw [beq_eq_false_iff_ne];omega
    have h0i:(0:Int)<(List.length NX:Int):=by omega
    go_upto_region 13 with (fail)
    refine wp_region_lit ?_;refine wV (fun _ _=>?_);go_simp;go_step;refine wV (fun _ _=>?_);go_simp;go_step;refine wV (fun _ _=>?_);go_simp;go_step;refine wX (v:=iv J) ⟨gn,on,none⟩ ((yaz _ _ _ _ hatn)) (fun _ _=>?_);go_simp;go_step;refine wE 23 #[iv J] (HPk.out _) (fun w7 hb _ _=>?_);go_simp;go_step;have HO:=jX (HO.out.later hb);clear hb hatn hgn HPk;obtain⟨u8,e8,v9,u9,hr9,ho9⟩:=OBK.app (yaT J) HO.out (by rw [Hfl.out];omega);refine yao (v:=.slice (some ⟨w7.heap.size,0,none⟩) 1 1) (w':=w7.alloc (.cells (kC (yaT J)) 30)) (by rfl) (yaJ 55 1 #[(0,.tmp 57)] #[(0,kv (yaT J))] _ rfl (by simp only [List.map_toArray,List.map_cons,List.map_nil];rfl) (yeB _ _)) (fun K hK=>?_);rw [e8];clear e8;go_simp;go_step;refine yao (by rfl) (yaQ (.tmp 53) (.tmp 58) 55 _ _ _ rfl rfl rfl hr9) (fun _ _=>?_);go_simp;go_step;clear hr9;rw [← Hfs.out] at ho9;have HO9:=jX ho9;clear ho9;go_wp2_with fail;go_roundw
    case rel=>exact ⟨0+1,by omega,congrArg (Value.int .i64) (by omega),HO9.out⟩
    case measure=>simp [intOf];omega
   obtain⟨j,hj⟩:∃ j,k=j+1:=⟨k-1,by omega⟩;have hgt0:(0:Int)<(k:Int):=by omega
   have hjl:j<svs.length:=by omega
   have hsub:IntKind.i64.wrap ((k:Int)-1)=(j:Int):=by rw [show (k:Int)-1=(j:Int) by omega];exact IntWalk.i64_in _ (by omega)
   have hj1:(j:Int)<(svs.length:Int):=by omega
   have hj0:(0:Int)≤(j:Int):=by omega
   have hj2:(j:Int)<(k:Int):=by omega
   have Hj:=jX hj;clear hj;have hrd:=HO.out.read;obtain⟨gt,ot,rfl,hgt,hatt⟩:=KR.elem hrd j (by rw [Hfl.out];have:=Hj.out;omega);rw [ygs] at hatt;clear hrd;obtain⟨gy,oy,hge,hgy,haty⟩:=StR.elem (HR.out.grow HO.out.keep) j hjl;obtain⟨rfl,rfl⟩:gy=g∧oy=o:=by injection hge with hge;injection hge with h1 h2;exact ⟨h1.symm,h2.symm⟩
   have hsj:=yaY hjl;have hxb:=HT.out j (by omega);have hz:=sz_le j (by omega);have hP:=yeF (i:=j) HSt.out HH.out HA.out (sz_ge j) hz hxb;have hnn:=(HLw.out j hjl).2.1 (by have:=Hj.out;omega);have hnb:Hid (nxt (sAt (stS svs)) F j (frm (sAt (stS svs)) F t j)=combK 2 (F k) [winI (sAt (stS svs)) j (frm (sAt (stS svs)) F t j)]):=by unfold nxt;rw [← Hj.out];exact jX rfl
   have hfk:frm (sAt (stS svs)) F t k=hdK (nxt (sAt (stS svs)) F j (frm (sAt (stS svs)) F t j)):=by rw [Hj.out];rfl
   have fyg:FitQ 8 svs[j].s.g:=by rw [← hsj];exact HSt.out.g j
   have hwin:Hid (winI (sAt (stS svs)) j (frm (sAt (stS svs)) F t j)=⟨⟨mvK x.s.a (mvK svs[j].s.g (frm (sAt (stS svs)) F t j)),false⟩,⟨mvK x.s.b (mvK svs[j].s.g (frm (sAt (stS svs)) F t j)),true⟩⟩):=by
    unfold winI;rw [← Hj.out,hsk,hsj];rw [yeo hxb.sm (by omega) (yaX fyg) (yaX fxa) (ybU fyg fxa),yeo hxb.sm (by omega) (yaX fyg) (yaX fxb) (ybU fyg fxb)];exact jX rfl
   have hfew:=HFew.out k hlt;have hxs:=hxb.sm;generalize svs[j]=y at *;obtain⟨tj,htj⟩:∃ tj,frm (sAt (stS svs)) F t j=tj:=⟨_,rfl⟩;rw [htj] at hatt hxb hP hnb hfk hwin hxs hnn;clear htj;obtain⟨NX,hNX⟩:∃ NX,nxt (sAt (stS svs)) F j tj=NX:=⟨_,rfl⟩;rw [hNX] at hnb hP hfk hnn;obtain⟨WI,hWI⟩:∃ WI,winI (sAt (stS svs)) j tj=WI:=⟨_,rfl⟩;rw [hWI] at hnb hwin;clear hWI hNX
   have h0n:0<NX.length:=by
    cases e:NX with
    | nil=>exact absurd e hnn
    | cons I r=>exact Nat.succ_pos _
   obtain⟨HPk,_,_⟩:=hP _ (List.getElem_mem h0n);have HPk:=jX HPk;rw [yeY h0n] at hfk;have Hfs:Hid (frmL (sAt (stS svs)) F t (k+1)=frmL (sAt (stS svs)) F t k++[yaT NX[0]]):=jX (by rw [yfv,hfk]);clear hP hfk hsk hsj hxb hnn
   have hnl:NX.length≤10000:=by
    rw [hnb.out];exact le10 (n:=4960+2) (hfew.comb ⟨[WI.f.pt,WI.l.pt],by simp,fun i hi=>by rw [List.mem_singleton] at hi;subst hi;exact ⟨by simp,by simp⟩⟩) (yaq _ _ _) (by omega)
   have HIn:=jX (fun u a b (h:Ls u [(a,F k)]) (h3:Ls u [(b,[WI])])=>by
    have:=h.interT h3 (by rw [← hnb.out];exact hnl);rw [← hnb.out] at this
    exact this)
   have HSh:=jX (ybM hxs (by omega) (yaX fyg));have HWi:=jX (yiQ (szH j+17+25) (by omega) (mvK y.s.g tj) (ycq hxs (by omega) (yaX fyg)) x.s.a x.s.b (yaX fxa) (yaX fxb) HSab.out);have hwin':=hwin.out;obtain⟨bf,hbf⟩:∃ bf,mvK y.s.g tj=bf:=⟨_,rfl⟩;rw [hbf] at HSh HWi hwin';clear hbf;have HOn:Hid (∀ (u:World) (e:Ending) (u':World),OnP u (mvK x.s.a bf) (mvK x.s.b bf) e u'→∃ g,e = .returned (.slice (some ⟨g,0,none⟩) 1 1)∧Below u.heap.size u u'∧Ls u' [(.slice (some ⟨g,0,none⟩) 1 1,[WI])]):=jX (fun u e u' h=>by rw [hwin'];exact h);obtain⟨pj,hpj⟩:∃ pj,oy+j*13=pj:=⟨_,rfl⟩;obtain⟨qj,hqj⟩:∃ qj,ot+j*9=qj:=⟨_,rfl⟩;rw [hpj] at haty;rw [hqj] at hatt;have Haty:=jX haty;have HLt:=jX (fun (u:World) (h:u.heap[gt]? = w4.heap[gt]?)=>show (loadVar 30 ⟨gt,qj,none⟩).run prog u = .ok (.agg (kC tj)) u from yar _ _ _ _ (hatt.keep h))
   have hgs4:=yaa Bgs.out;clear haty hatt hge fyg fxa fxb hfew hxs HSab hnb hwin hwin';generalize F k=Fk at *;generalize kC tj=TJ at *;generalize kC bf=BF at *;go_upto_region 10 with (fail)
   refine yad (S:=fun u=>Below w4.heap.size w4 u) 19 (by kernel_rfl) (by kernel_rfl) (fun _ _ d _ _ h=>by cases d<;>exact h) ?_;have hS0:=(Keep.drew [] w4).bz;generalize World.drew w4=u2 at *;refine tV 0 hS0 (fun _ _=>?_);go_simp;go_step;refine tV 1 hS0 (fun _ _=>?_);go_simp;go_step;refine tV 2 hS0 (fun _ _=>?_);go_simp;go_step;refine tV 3 hS0 (fun _ _=>?_);go_simp;go_step;refine tV 4 hS0 (fun _ _=>?_);go_simp;go_step;refine tX 5 ⟨gt,qj,none⟩ hS0 (fun w hw=>HLt.out _ (hw.block gt hgt)) (fun _ _=>?_);go_simp;go_step;refine tV 6 hS0 (fun _ _=>?_);go_simp;go_step;refine tV 7 hS0 (fun _ _=>?_);go_simp;go_step;refine tV 8 hS0 (fun _ _=>?_);go_simp;go_step;refine tV 9 hS0 (fun _ _=>?_);go_simp;go_step;refine tV 10 hS0 (fun _ _=>?_);go_simp;go_step;refine tX 11 ⟨gy,pj+1,none⟩ hS0 (fun w hw=>(Haty.out.keep (hw.block gy hgy)).lg) (fun _ _=>?_);go_simp;go_step;refine tV 13 hS0 (fun _ _=>?_);go_simp;go_step;refine jG (v:=.agg (rC x.s.a)) 14 hS0 (fun w hw=>yai _ _ ⟨gs,0+5,none⟩ _ rfl rfl (yaU ((hw.block gs hgs4).trans Bgs.out)).la) (fun _ _=>?_);go_simp;go_step;refine tV 15 hS0 (fun _ _=>?_);go_simp;go_step;refine jG (v:=.agg (rC x.s.b)) 16 hS0 (fun w hw=>yai _ _ ⟨gs,0+9,none⟩ _ rfl rfl (yaU ((hw.block gs hgs4).trans Bgs.out)).lb) (fun _ _=>?_);go_simp;go_step;refine uQ 12 54 #[.agg TJ,.agg (rC y.s.g)] hS0 (HSh.out _) (fun u3 hS0 _ _ _=>?_);go_simp;go_step;refine jP 17 (fun K hK=>?_);refine yaf 119 #[.agg BF,.agg (rC x.s.a),.agg (rC x.s.b)] (yaE _ _ _ _ rfl (by simp only [List.map_toArray,List.map_cons,List.map_nil];rfl) (by rfl)) ?_;refine (HWi.out _).mono ?_;intro e u4 hon;obtain⟨gw,rfl,hb,hlw⟩:=HOn.out _ _ _ hon;have hS0:=hS0.trans (Below.mono hb hS0.size);refine ⟨_,rfl,?_⟩;go_simp;refine hK _ _ hS0 ?_;clear hK K hon;refine jP 18 (fun K hK=>?_);refine yaf 108 #[.slice ma Fk.length mc,.slice (some ⟨gw,0,none⟩) 1 1] (yaE _ _ _ _ rfl (by simp only [List.map_toArray,List.map_cons,List.map_nil];rfl) (by rfl)) ?_;refine (HIn.out _ _ _ (HLm.out.grow hS0) hlw).mono ?_;rintro e u6 ⟨a6,c6,rfl,hb,hl6,_⟩;have hS0:=hS0.trans (Below.mono hb hS0.size);refine ⟨_,rfl,?_⟩;go_simp;refine hK _ _ hS0 ?_;clear hK K;refine ⟨by kernel_rfl,?_⟩;simp only [List.drop_succ_cons,List.drop_zero];have HO:=jX (HO.out.later hS0);obtain⟨gn,on,rfl,hgn,hatn⟩:=IvR.elem (hl6 _ (List.mem_singleton.2 rfl)).1 0 h0n;rw [Nat.zero_mul,Nat.add_zero] at hatn;clear hS0 hb hl6 hlw HSh HWi HOn HIn HQ HLm Bgs hgs4 Haty HLt hgt hgy q;generalize NX[0]=J at *;have hi:((List.length NX:Int) == 0)=false:=by rw [beq_eq_false_iff_ne];omega
   have h0i:(0:Int)<(List.length NX:Int):=by omega
   go_upto_region 13 with (fail)
   refine wp_region_lit ?_;refine wV (fun _ _=>?_);go_simp;go_step;refine wV (fun _ _=>?_);go_simp;go_step;refine wV (fun _ _=>?_);go_simp;go_step;refine wX (v:=iv J) ⟨gn,on,none⟩ ((yaz _ _ _ _ hatn)) (fun _ _=>?_);go_simp;go_step;refine wE 23 #[iv J] (HPk.out _) (fun w7 hb _ _=>?_);go_simp;go_step;have HO:=jX (HO.out.later hb);clear hb hatn hgn HPk;obtain⟨u8,e8,v9,u9,hr9,ho9⟩:=OBK.app (yaT J) HO.out (by rw [Hfl.out];omega);refine yao (v:=.slice (some ⟨w7.heap.size,0,none⟩) 1 1) (w':=w7.alloc (.cells (kC (yaT J)) 30)) (by rfl) (yaJ 55 1 #[(0,.tmp 57)] #[(0,kv (yaT J))] _ rfl (by simp only [List.map_toArray,List.map_cons,List.map_nil];rfl) (yeB _ _)) (fun K hK=>?_);rw [e8];clear e8;go_simp;go_step;refine yao (by rfl) (yaQ (.tmp 53) (.tmp 58) 55 _ _ _ rfl rfl rfl hr9) (fun _ _=>?_);go_simp;go_step;clear hr9;rw [← Hfs.out] at ho9;have HO9:=jX ho9;clear ho9;go_wp2_with fail;go_roundw
   case rel=>exact ⟨k+1,by omega,congrArg (Value.int .i64) (by omega),HO9.out⟩
   case measure=>simp [intOf];omega
  obtain rfl:k=svs.length:=by omega
  have hkc:¬ ((svs.length:Int)<(svs.length:Int)):=by omega
  have hrd:=HO.out.read;have HRd:=jX hrd;have HB:=jX (HB1.out.trans (Below.mono HO.out.keep HB1.out.size));clear hrd;go_wp2_with fail;go_ret2
  exact ⟨⟨_,_,rfl,HRd.out⟩,HB.out⟩
theorem Witness_no (svs:List StV) (hg:Good (stS svs)) (h1:0<svs.length) (h4:svs.length≤4) (w:World) (sv:Value) (hr:StR w sv svs) (hnil:livAt (sAt (stS svs)) svs.length 0=[]) :
  Calls prog 66 #[sv] w fun e w'=>e = .returned (.tuple #[.slice none 0 0,.int .i64 9])∧Below w.heap.size w w':=by
 have HP:=jX (LivP.row (live_p svs hg h1 h4 w sv hr));obtain⟨xa,xc,rfl⟩:=hr.form;have HR:=jX hr;have HN:=jX hnil;clear hr hg hnil;generalize livAt (sAt (stS svs)) svs.length=F at *;go_enter func66,ntmps66
 go_wp2_with fail;refine HP.out.mono ?_;rintro e w1 ⟨gl,cl,rfl,hrow,hb1⟩;dsimp only;have HB1:=jX hb1;have HL:=jX hrow;have HR:=jX (HR.out.grow hb1);clear hrow hb1 HP;go_wp2_with fail;go_loopw [6,20] (fun ov c wr=>c = .int .i64 0∧wr=w1) (fun _ c _=>svs.length)
 case atStart=>exact ⟨rfl,rfl⟩
 case round =>
  obtain⟨rfl,rfl⟩:=hrel;have hkc:(0:Int)<(svs.length:Int):=by omega
  obtain⟨g,o,rfl,hg,hat⟩:=StR.elem HR.out 0 h1;obtain⟨hgl,ma,mc,q,_⟩:=HL.out.get h1;rw [HN.out] at q;generalize svs[0]=x at *;rw [Nat.zero_mul,Nat.add_zero] at hat;have HX:=jX (ycL _ g o x hat);have HQ:=jX q;clear hat q;rename World=>wr;go_upto_region 7 with (fail)
  refine wp_region_lit ?_;refine wV (fun _ _=>?_);go_simp;go_step;refine wV (fun _ _=>?_);go_simp;go_step;refine wX (v:=.agg x.C) ⟨g,o,none⟩ (HX.out) (fun _ _=>?_);go_simp;go_step;refine wA (yhH _ _ _ rfl) (fun w3 gs e2 bgs hgs _ hk1 _ _=>?_);go_simp;go_step;refine wV (fun _ _=>?_);go_simp;go_step;refine wR gs x.C bgs (by exact ydq x) (by rfl) x.ones (fun w4 b4 k4 _ _=>?_);go_simp;go_step;clear HX;have hkk:=(show Keep [] wr w4 from hk1.trans k4 (by simp;omega)).bz
  have q:=(World.cell?_of_block (hkk.block gl hgl)).trans HQ.out;have HB:=jX (HB1.out.trans (Below.mono hkk HB1.out.size));clear hk1 k4 b4 bgs e2 hgs hkk hg hgl HQ HL HR;go_wp2_with fail;go_ret2
  exact ⟨rfl,HB.out⟩
def WrPost (s:Nat→St) (n:Nat) (w:World) (e:Ending) (w':World):Prop :=
 Below w.heap.size w w'∧((livAt s n 0≠[]∧∃ a c,e = .returned (.tuple #[.slice a n c,.bool true])∧KR w' (.slice a n c) (frmL s (livAt s n) (wst s n) n)) ∨
  (livAt s n 0=[]∧e = .returned (.tuple #[.slice none 0 0,.bool false])))
theorem fr_split {s:Nat→St} {n:Nat} {w w':World} {e:Ending} {t:K} (h:FrPost s (livAt s n) t n w e w') (hn:∀ i,i<n→i+1<n→nxt s (livAt s n) i (frm s (livAt s n) t i)≠[]):Below w.heap.size w w'∧∃ a c,e = .returned (.tuple #[.slice a n c,.bool true])∧KR w' (.slice a n c) (frmL s (livAt s n) t n):=by
 obtain⟨hb,⟨_,h⟩|⟨⟨i,hi,hz⟩,_⟩⟩:=h
 ·exact ⟨hb,h⟩
 exact absurd hz (hn i (by omega) hi)
theorem witness_c (svs:List StV) (hg:Good (stS svs)) (hh:∀ i,Hs (sAt (stS svs) i)) (h1:0<svs.length) (h4:svs.length≤4) (w:World) (sv:Value) (hr:StR w sv svs) (hp:∀ i,0≤(sAt (stS svs) i).g∧(sAt (stS svs) i).a≤(sAt (stS svs) i).b) :
  Calls prog 67 #[sv] w (WrPost (sAt (stS svs)) svs.length w):=by
 have HP:=jX (LivT.row (rlive_c svs hg h1 h4 w sv hr));obtain⟨xa,xc,rfl⟩:=hr.form;have HR:=jX hr;have hst:=StsOk.at _ hg.ok;by_cases h0:livAt (sAt (stS svs)) svs.length 0=[]
 ·have H0:=jX h0
  clear hr hg hh hp hst h0;go_enter func67,ntmps67
  go_wp2_with fail;refine HP.out.mono ?_;rintro e w1 ⟨gl,cl,rfl,hrow,hb1⟩;dsimp only;have HB1:=jX hb1;obtain⟨hgl,ma,mc,q,_⟩:=hrow.get h1;rw [H0.out] at q;have h0i:(0:Int)<(svs.length:Int):=by omega
  clear hrow hb1 HP;go_wp2_with fail;go_ret2
  exact ⟨HB1.out,.inr ⟨H0.out,rfl⟩⟩
 have h00:0<(livAt (sAt (stS svs)) svs.length 0).length:=by
  cases e:livAt (sAt (stS svs)) svs.length 0 with
  | nil=>exact absurd e h0
  | cons I r=>exact Nat.succ_pos _
 obtain⟨hpk0,hb0,hl0⟩:=yeN hst hh h4 _ (List.getElem_mem h00);have hws:wst (sAt (stS svs)) svs.length=yaT (livAt (sAt (stS svs)) svs.length 0)[0]:=yeY h00;rw [← hws] at hpk0 hb0 hl0;have HLw:=jX (fun i (hi:i<svs.length)=>(ygz hst h4 hh hp hb0 hl0 i hi).2.1);have HC:=jX (fun u v gl cl (h:StR u v svs) (k:RowL u (.slice (some ⟨gl,0,none⟩) svs.length cl) svs.length (livAt (sAt (stS svs)) svs.length))=>(from_c svs hg hh h1 h4 _ hb0 u v h gl cl k).mono fun e u' hf=>fr_split hf HLw.out);have HP0:=jX hpk0;have H0:=jX h0;clear hr hg hh hp hst h0 hpk0 hb0 hl0 hws HLw;go_enter func67,ntmps67
 go_wp2_with fail;refine HP.out.mono ?_;rintro e w1 ⟨gl,cl,rfl,hrow,hb1⟩;dsimp only;have HB:=jX hb1;have HL:=jX hrow;have HR:=jX (HR.out.grow hb1);obtain⟨hgl,ma,mc,q,hlm⟩:=hrow.get h1;obtain⟨gn,on,rfl,hgn,hatn⟩:=IvR.elem (hlm _ (List.mem_singleton.2 rfl)).1 0 h00;rw [Nat.zero_mul,Nat.add_zero] at hatn;have h0i:(0:Int)<(svs.length:Int):=by omega
 have h0n:(0:Int)<((livAt (sAt (stS svs)) svs.length 0).length:Int):=by omega
 have hz:(((livAt (sAt (stS svs)) svs.length 0).length:Int) == 0)=false:=by rw [beq_eq_false_iff_ne];omega
 clear hrow hb1 HP hlm;obtain⟨J,hJ⟩:∃ J,(livAt (sAt (stS svs)) svs.length 0)[0]=J:=⟨_,rfl⟩;rw [hJ] at hatn HP0;clear hJ;obtain⟨nn,hnn⟩:∃ nn,(livAt (sAt (stS svs)) svs.length 0).length=nn:=⟨_,rfl⟩;rw [hnn] at q h0n hz h00;clear hnn;have HQ:=jX q;go_upto_region 4 with (fail)
 refine wp_region_lit ?_;refine wV (fun _ _=>?_);go_simp;go_step;refine wV (fun _ _=>?_);go_simp;go_step;refine wV (fun _ _=>?_);go_simp;go_step;refine wV (fun _ _=>?_);go_simp;go_step;refine wV (fun _ _=>?_);go_simp;go_step;refine wV (fun _ _=>?_);go_simp;go_step;refine wX (v:=iv J) ⟨gn,on,none⟩ ((yaz _ _ _ _ hatn)) (fun _ _=>?_);go_simp;go_step;refine wE 23 #[iv J] (HP0.out _) (fun w7 hb _ _=>?_);go_simp;go_step;have HR:=jX (HR.out.grow hb);have HL:=jX (HL.out.grow hb);have HB:=jX (HB.out.trans (Below.mono hb HB.out.size));clear hb hatn hgn HP0 q HQ hgl;refine wpList_plain (by rfl) (fun K hK=>?_);refine yaf 65 #[.slice xa svs.length xc,.slice (some ⟨gl,0,none⟩) svs.length cl,kv (wst (sAt (stS svs)) svs.length)] (yaE _ _ _ _ rfl (by simp only [List.map_toArray,List.map_cons,List.map_nil];rfl) (by rfl)) ?_;refine (HC.out _ _ _ _ HR.out HL.out).mono ?_;rintro e9 w8 ⟨hb,a8,c8,rfl,hkr⟩;refine ⟨_,rfl,?_⟩;go_simp;go_step;have HB:=jX (HB.out.trans (Below.mono hb HB.out.size));have HKr:=jX hkr;clear hb hkr HC HR HL;go_wp2_with fail;go_ret2
 exact ⟨HB.out,.inl ⟨H0.out,_,_,rfl,HKr.out⟩⟩
theorem exec_bin2 {o:Oper} {ev:Operand→Value} {w:World} (op:BinOp) (t:TypeId) (x y:Operand) (s:TypeId) (cx cy:Array Value) (v:Value) (ho:o.op = .binOp op t x y s) (hx:ev x = .agg cx) (hy:ev y = .agg cy) (hg:prog.eqGuardType prog.depth t=false)
  (h:(binOp op t (.agg cx) (.agg cy)).run prog w = .ok v w):(execOp ev o).run prog w = .ok (.value v) w:=by
 unfold execOp;simp only [ho,hx,hy,Sem.run_bind,run_eqGuard_agg (hm:=hg),Result.andThen_ok,h,Sem.run_pure]
theorem yin (l:List K) (n:Nat) (hl:l.length=n) (h16:n≤16) (w:World) (a b:Option Addr) (c d:Nat) (hr:KR w (.slice a n c) l) (hs:KR w (.slice b n d) l) :
  Calls prog 68 #[.slice a n c,.slice b n d] w (BPost w true):=by
 have HR:=jX hr;have HS:=jX hs;have Hl:=jX hl;clear hr hs hl;go_enter func68,ntmps68
 go_wp2_with fail;go_loopw [5] (fun c wr=>∃ k:Nat,k≤n∧c = .int .i64 (k:Int)∧Below w.heap.size w wr) (fun c _=>n-(intOf c).toNat)
 case atStart=>exact ⟨0,Nat.zero_le _,rfl,Below.refl _ _⟩
 case round =>
  obtain⟨k,hk,rfl,hb⟩:=hrel;have HB:=jX hb;clear hb;by_cases hlt:k<n
  ·have hku:k<l.length:=by rw [Hl.out];exact hlt
   have hkc:(k:Int)<(n:Int):=by omega
   obtain⟨g,o,rfl,hg,hat⟩:=KR.elem (HR.out.laterB HB.out) k hku;obtain⟨g',o',rfl,hg',hat'⟩:=KR.elem (HS.out.laterB HB.out) k hku;obtain⟨p,hp⟩:∃ p,o+k*9=p:=⟨_,rfl⟩;obtain⟨p',hp'⟩:∃ p',o'+k*9=p':=⟨_,rfl⟩;rw [hp] at hat;rw [hp'] at hat';generalize l[k]=x at *;have HX:=jX (fun (u:World) (h:u.heap[g]? = wr.heap[g]?)=>show (loadVar 30 ⟨g,p,none⟩).run prog u = .ok (.agg (kC x)) u from yar _ _ _ _ (hat.keep h))
   have HY:=jX (fun (u:World) (h:u.heap[g']? = wr.heap[g']?)=>show (loadVar 30 ⟨g',p',none⟩).run prog u = .ok (.agg (kC x)) u from yar _ _ _ _ (hat'.keep h))
   have HN:=jX (fun u=>neqR_run x x u);rw [decide_eq_true rfl,show kv x = .agg (kC x) from rfl] at HN
   clear hat hat';generalize kC x=X at *;go_upto_region 6 with (fail)
   refine yad (S:=fun u=>Below wr.heap.size wr u) 8 (by kernel_rfl) (by kernel_rfl) (fun _ _ d _ _ h=>by cases d<;>exact h) ?_;have hS0:=(Keep.drew [] wr).bz;generalize World.drew wr=u2 at *;refine tV 0 hS0 (fun _ _=>?_);go_simp;go_step;refine tV 1 hS0 (fun _ _=>?_);go_simp;go_step;refine tV 2 hS0 (fun _ _=>?_);go_simp;go_step;refine tX 3 ⟨g,p,none⟩ hS0 (fun w hw=>HX.out _ (hw.block g hg)) (fun _ _=>?_);go_simp;go_step;refine tV 4 hS0 (fun _ _=>?_);go_simp;go_step;refine tV 5 hS0 (fun _ _=>?_);go_simp;go_step;refine tV 6 hS0 (fun _ _=>?_);go_simp;go_step;refine tX 7 ⟨g',p',none⟩ hS0 (fun w hw=>HY.out _ (hw.block g' hg')) (fun _ _=>?_);go_simp;go_step;refine ⟨by kernel_rfl,?_⟩;simp only [List.drop_succ_cons,List.drop_zero];refine wU (v:=.bool (!true)) (exec_bin2 _ _ _ _ _ X X _ rfl rfl rfl eqR_g (HN.out _)) (fun _ _=>?_);go_simp;go_step;have HB:=jX (HB.out.trans (Below.mono hS0 HB.out.size));clear hS0 HX HY HN;go_wp2_with fail;go_roundw
   case rel=>exact ⟨k+1,by omega,congrArg (Value.int .i64) (by omega),HB.out⟩
   case measure=>simp [intOf];omega
  have hkc:¬ ((k:Int)<(n:Int)):=by omega
  go_wp2_with fail;go_ret
  exact ⟨rfl,HB.out⟩
theorem wr_yes {s:Nat→St} {n:Nat} {w w':World} {e:Ending} (h:WrPost s n w e w') (hn:livAt s n 0≠[]):Below w.heap.size w w'∧∃ a c,e = .returned (.tuple #[.slice a n c,.bool true])∧KR w' (.slice a n c) (frmL s (livAt s n) (wst s n) n):=by
 obtain⟨hb,⟨_,h⟩|⟨hz,_⟩⟩:=h
 ·exact ⟨hb,h⟩
 exact absurd hz hn
theorem yiV (s:Nat→St) (A:Nat→List (Iv K)) (t:K) {n i:Nat} (h:i<n):tAt (frmL s A t n) i=frm s A t i:=by
 rw [yfq (by rw [ydg];exact h),ygs]
theorem frmL_sm {s:Nat→St} (h:StOk s) (hh:∀ i,Hs (s i)) {A:Nat→List (Iv K)} (hA:∀ i,HI 512 (A i)) {t:K} (ht:Hb 64 t) {n:Nat} (hn:n≤4):∀ x∈frmL s A t n,Sm 50017 x:=fun x hx=>by
 unfold frmL at hx;obtain⟨i,hi,rfl⟩:=List.mem_map.1 hx;rw [List.mem_range] at hi;exact (yfR h hh hA ht i (by omega)).sm.mono (by have:=sz_le3 i (by omega);omega)
theorem frm_all {s:Nat→St} (h:StOk s) (hh:∀ i,Hs (s i)) {n:Nat} (hn:n≤4) (hp:∀ i,0≤(s i).g∧(s i).a≤(s i).b) {t:K} (ht:Hb 64 t) (hl:holds (livAt s n 0) t=true):hall s (tAt (frmL s (livAt s n) t n)) n=true :=
 ygy fun i hi=>by
  have:=(ygz h hn hh hp ht hl i hi).2.2;unfold hstp at this ⊢;rw [yiV _ _ _ hi,yiV _ _ _ (show i-1<n by omega)]
  exact this
end
end Go.Proofs.YtpgffjjpiafhpaaGreatDoor
