/- Parts of a proof: Mq Mr Mt. -/
import Derived.IntWalk
import Derived.Test.YtejegogbhpmgfaaGreatDoorG40
import Derived.Test.YtejegogbhpmgfaaGreatDoorG34
import Derived.Test.YtejegogbhpmgfaaGreatDoorG17
import Derived.Test.YtejegogbhpmgfaaGreatDoorG37
import Derived.Test.YtejegogbhpmgfaaGreatDoorG24
import Derived.Test.YtejegogbhpmgfaaGreatDoorG35
import Derived.Test.YtejegogbhpmgfaaGreatDoorG32
set_option linter.unusedVariables false
set_option linter.unusedSimpArgs false
set_option maxRecDepth 100000
set_option maxHeartbeats 8000000
namespace Go.Proofs.YtejegogbhpmgfaaGreatDoor
open Go.RowKit Tryz
section
open Classical
theorem yco (m n:Nat) (hm:m<256) (hn:n<256) (w:World):Calls prog 68 #[.int .i64 (m:Int),.int .i64 (n:Int)] w fun e w'=>e = .returned (iv ⟨⟨kN m hm,false⟩,⟨kN n hn,true⟩⟩)∧Keep [] w w':=by
 have H1:=jX (fun w=>rof_c (m:Int) 1 (by decide) (by omega) (by omega) (by decide) (by decide) w);have H2:=jX (fun w=>rof_c (n:Int) 1 (by decide) (by omega) (by omega) (by decide) (by decide) w);rw [yjr] at H1 H2;have HB1:=jX (yeH (m:Rat) (yeP m hm));have HB2:=jX (yeH (n:Rat) (yeP n hn));rw [show kQ (m:Rat) (yeP m hm)=kN m hm from rfl] at HB1
 rw [show kQ (n:Rat) (yeP n hn)=kN n hn from rfl] at HB2
 have HI:=jX (iv_b01 (kN m hm) (kN n hn));have HS:=jX (ycq ⟨⟨kN m hm,false⟩,⟨kN n hn,true⟩⟩);have HO:=jX (ycC ⟨⟨kN m hm,false⟩,⟨kN n hn,true⟩⟩);have HC:Hid ((iC ⟨⟨kN m hm,false⟩,⟨kN n hn,true⟩⟩).size=20):=rfl;have HL:=jX (fun w g (h:w.heap[g]? = some (.cells (iC ⟨⟨kN m hm,false⟩,⟨kN n hn,true⟩⟩) 49))=>ybH w g 0 _ (yaW h));unfold iv kv at *;unfold rv at *;generalize sgB ((m:Rat)).num=a1 at *;generalize mgS ((m:Rat)).num=a2 at *;generalize dnS ((m:Rat)).den=a3 at *;generalize sgB ((n:Rat)).num=b1 at *;generalize mgS ((n:Rat)).num=b2 at *;generalize dnS ((n:Rat)).den=b3 at *;generalize iC ⟨⟨kN m hm,false⟩,⟨kN n hn,true⟩⟩=I at *;generalize kC (kN m hm)=C1 at *;generalize kC (kN n hn)=C2 at *;go_enter func68,ntmps68
 go_upto_region 1 with (fail)
 obtain⟨W,ga,hW,ega,Bga,hga,hgW,HkW⟩:=al1h w (.cells #[.bool false,.string ⟨#[]⟩,.bool false,.string ⟨#[]⟩,.bool false,.string ⟨#[]⟩,.bool false,.string ⟨#[]⟩,.bool false,.bool false,.string ⟨#[]⟩,.bool false,.string ⟨#[]⟩,.bool false,.string ⟨#[]⟩,.bool false,.string ⟨#[]⟩,.bool false,.bool false,.bool false] 49);rw [← hW];try rw [ega]
 clear hW ega;refine wp_region_lit ?_;refine' yad (v:=_) (by rfl) (?ha) (fun K hK=>?ka)
 case ha=>(go_simp;try rfl)
 go_simp;refine hK _ _ ?_;clear hK K;refine wpList_plain (by rfl) (fun K hK=>?_);refine yae 102 #[.int .i64 (m:Int),.int .i64 1] (by go_simp) ?_;refine (H1.out _).mono ?_;rintro e w1 ⟨rfl,hk_w1⟩;refine ⟨_,rfl,?_⟩;go_simp;refine hK _ _ ?_;clear hK K;refine yad (v:=.agg C1) (by rfl) (yar _ #[(0,.tmp 6)] #[(0,.agg #[.bool a1,.string a2,.bool false,.string a3])] _ rfl (by simp only [List.map_toArray,List.map_cons,List.map_nil];rfl) HB1.out) (fun K hK=>?_);go_simp;refine hK _ _ ?_;clear hK K;refine' yad (v:=_) (by rfl) (?hb) (fun K hK=>?kb)
 case hb=>(go_simp;try rfl)
 go_simp;refine hK _ _ ?_;clear hK K;refine wpList_plain (by rfl) (fun K hK=>?_);refine yae 102 #[.int .i64 (n:Int),.int .i64 1] (by go_simp) ?_;refine (H2.out _).mono ?_;rintro e w2 ⟨rfl,hk_w2⟩;refine ⟨_,rfl,?_⟩;go_simp;refine hK _ _ ?_;clear hK K;refine yad (v:=.agg C2) (by rfl) (yar _ #[(0,.tmp 9)] #[(0,.agg #[.bool b1,.string b2,.bool false,.string b3])] _ rfl (by simp only [List.map_toArray,List.map_cons,List.map_nil];rfl) HB2.out) (fun K hK=>?_);go_simp;refine hK _ _ ?_;clear hK K;refine yad (v:=.agg I) (by rfl) (yar _ #[(0,.tmp 7),(1,.tmp 10)] #[(0,.agg C1),(1,.agg C2)] _ rfl (by simp only [List.map_toArray,List.map_cons,List.map_nil];rfl) HI.out) (fun K hK=>?_);go_simp;refine hK _ _ ?_;clear hK K;have hk:=hk_w1.tz hk_w2;have Bga:=jX (hk.heap Bga.out (by simp));have HkW:=jX (HkW.out.tz hk);clear hk hk_w1 hk_w2;refine yam (by rfl) _ _ _ rfl ga I rfl rfl _ _ Bga.out (by exact HS.out) (by rw [HC.out];rfl) HO.out (fun K hK=>?_);obtain⟨W4,e4,b4,k4⟩:=yal (cs:=I) Bga.out;rw [e4];go_simp;refine hK _ _ ?_;clear hK K;have Hb4:=jX b4;have HkZ:=jX (HkW.out.trans k4 (by simp;omega));clear b4 k4 e4;go_wp2_with fail;refine bodyPost_ret (v:=.agg I) ?_ rfl ⟨rfl,HkZ.out⟩;rw [yah rfl];exact HL.out _ _ Hb4.out
theorem iC_open (f:Bd K) (y:K):(iC ⟨f,⟨y,true⟩⟩).setIfInBounds 19 (.bool true)=iC ⟨f,⟨y,false⟩⟩:=by rfl
section
variable {S:List K} {w0 w w' W:World} {L M:List (Value × List (Iv K))} {D T E U P:List (Iv K)} {da ta ea ua pa:Option Addr} {dc tc ec uc pc:Nat}
theorem MP.mconst1 (h:MP S w0 w L) (hP:(.slice pa P.length pc,P)∈L):Calls prog 58 #[.bool true,.slice pa P.length pc] w (BolPost S w0 L P P):=by
 have H0:=jX h;have hP:=jX hP;clear h;go_enter func58,ntmps58
 go_upto_region 1 with (fail)
 obtain⟨W,ga,hW,ega,Bga,hga,hgW,HkW⟩:=al1h w (.cells #[.slice none 0 0,.slice none 0 0] 29);rw [← hW];try rw [ega]
 clear hW ega;have HM:=jX (H0.out.here.move HkW.out).here;go_wp2_with fail;refine (HM.out.clone (v:=.slice pa P.length pc) (a:=P) (by simp [hP.out])).mono ?_;rintro e w1 ⟨vo_w1,vc_w1,rfl,hm_w1⟩;dsimp only;have HM:=jX hm_w1;clear hm_w1;go_upto_region 2 with (fail)
 obtain⟨w2,gn,e2,e3,bn,hgn,_,hk2⟩:=al1 w1 (.cells #[.slice vo_w1 P.length vc_w1,.slice none 0 0] 29);rw [← e2,e3];clear e2 e3;have Hgn:=jX (Nat.le_trans HM.out.keep.size hgn);have HM:=jX (HM.out.move hk2);have HK5:=jX HM.out.keep;have Bn:=jX bn;clear bn hk2;go_wp2_with fail;refine (HM.out.here.clone (v:=.slice pa P.length pc) (a:=P) (by simp [hP.out])).mono ?_;rintro e w6 ⟨vo_w6,vc_w6,rfl,hm⟩;dsimp only;have Bn:=jX (hm.keep.heap Bn.out (by simp));have HM:=jX (hm.re (HK5.out.tz hm.keep));clear hm HK5;have pgn:=yaa Bn.out;have fgn:=yaf Bn.out;have lgn:=yab Bn.out;go_upto_region 4 with (fail)
 obtain⟨w7,e7,b7,k7⟩:=st2b (y:=.slice vo_w6 P.length vc_w6) Bn.out;rw [← e7];have HM:=jX (HM.out.put Bn.out (by simp) k7 Hgn.out);clear pgn fgn lgn e7 k7 Bn;have pgn:=yaa b7;have Bn:=jX b7;clear b7;have bz:=jX (HM.out.keep.heap Bga.out (by simp));have pga:=yaa bz.out;have fga:=yaf bz.out;have lga:=yab bz.out;go_wp2_with fail;obtain⟨u9,e9,b9,k9⟩:=st2 (x:=.slice vo_w1 P.length vc_w1) (y:=.slice vo_w6 P.length vc_w6) bz.out;rw [← e9];clear e9 pga fga lga;have pga:=yaa b9;refine bodyPost_ret (v:=.agg #[.slice vo_w1 P.length vc_w1,.slice vo_w6 P.length vc_w6]) ?_ rfl ⟨_,_,_,_,rfl,MP.fin H0.out.keep HkW.out HM.out bz.out (by simp) (by omega) k9 ?_⟩
 ·rw [yah rfl];go_simp
 intro p hp;simp only [List.mem_cons] at hp ⊢;grind
theorem MP.one (h:MP S w0 w L) (i:Iv K) (hi:i.f<i.l) (h1:i.f.pt∈S) (h2:i.l.pt∈S):∃ u g,w.alloc (.cells (iC i) 49)=u∧w.heap.size=g∧Keep [] w u∧MP S w0 u ((.slice (some ⟨g,0,none⟩) 1 1,[i]) :: L):=by
 obtain⟨u,g,e1,e2,_,hk,hr⟩:=IvR.single i w;exact ⟨u,g,e1,e2,hk,h.add hk hr ⟨⟨hi,trivial⟩,fun j hj=>by simp at hj;subst hj;exact ⟨h1,h2⟩⟩⟩
end
def exS:List K:=[kN 0 (by decide),kN 2 (by decide),kN 3 (by decide),kN 4 (by decide),kN 10 (by decide),kN 12 (by decide)]
def exD:Iv K:=⟨⟨kN 0 (by decide),false⟩,⟨kN 10 (by decide),true⟩⟩
def exT:Iv K:=⟨⟨kN 2 (by decide),false⟩,⟨kN 4 (by decide),false⟩⟩
theorem yeM {m n:Nat} {hm:m<256} {hn:n<256} {a b:Bool} (h:m<n):(⟨⟨kN m hm,a⟩,⟨kN n hn,b⟩⟩:Iv K).f<(⟨⟨kN m hm,a⟩,⟨kN n hn,b⟩⟩:Iv K).l:=Bd.lt_def.2 (.inl ((yed (hm:=hm) (hn:=hn)).2 h))
theorem example_c (w:World):Calls prog 67 #[] w (BolPost exS w [] [exD] [exT]):=by
 have H1:=jX (yco 2 4 (by decide) (by decide));have H2:=jX (yco 0 10 (by decide) (by decide));rw [show (⟨⟨kN 0 (by decide),false⟩,⟨kN 10 (by decide),true⟩⟩:Iv K)=exD from rfl] at H2
 have H0:=jX (MP.start (S:=exS) (by decide) w);go_enter func67,ntmps67
 go_upto_region 1 with (fail)
 obtain⟨W,ga,hW,ega,Bga,hga,hgW,HkW⟩:=al1h w (.cells #[.slice none 0 0,.slice none 0 0] 29);rw [← hW];try rw [ega]
 clear hW ega;refine wp_region_lit ?_;refine wpList_plain (by rfl) (fun K hK=>?_);refine yae 68 #[.int .i64 2,.int .i64 4] (by go_simp) ?_;refine (H1.out _).mono ?_;rintro e w1 ⟨rfl,hk_w1⟩;refine ⟨_,rfl,?_⟩;go_simp;refine hK _ _ ?_;clear hK K;have Bga:=jX (hk_w1.heap Bga.out (by simp));have HkW:=jX (HkW.out.tz hk_w1);clear hk_w1;obtain⟨w2,gi,e2,e3,b2,hgi,_,hk2⟩:=al1 w1 (.cells #[.bool false,.string ⟨#[]⟩,.bool false,.string ⟨#[]⟩,.bool false,.string ⟨#[]⟩,.bool false,.string ⟨#[]⟩,.bool false,.bool false,.string ⟨#[]⟩,.bool false,.string ⟨#[]⟩,.bool false,.string ⟨#[]⟩,.bool false,.string ⟨#[]⟩,.bool false,.bool false,.bool false] 49);refine yaq (v:=.pointer (some ⟨w1.heap.size,0,none⟩)) (w':=w1.alloc (.cells #[.bool false,.string ⟨#[]⟩,.bool false,.string ⟨#[]⟩,.bool false,.string ⟨#[]⟩,.bool false,.string ⟨#[]⟩,.bool false,.bool false,.string ⟨#[]⟩,.bool false,.string ⟨#[]⟩,.bool false,.string ⟨#[]⟩,.bool false,.string ⟨#[]⟩,.bool false,.bool false,.bool false] 49)) (by rfl) (yfX _ _ _ rfl) (fun K hK=>?_);rw [← e2,e3];clear e2 e3;go_simp;refine hK _ _ ?_;clear hK K;refine yam (by rfl) _ _ _ rfl gi (iC ⟨⟨kN 2 (by decide),false⟩,⟨kN 4 (by decide),true⟩⟩) rfl rfl _ _ b2 (by exact ycq _) (by rfl) (ycC _) (fun K hK=>?_);obtain⟨W3,e4,b4,k4⟩:=yal (cs:=iC ⟨⟨kN 2 (by decide),false⟩,⟨kN 4 (by decide),true⟩⟩) b2;rw [e4];go_simp;refine hK _ _ ?_;clear hK K e4;have HW3:=jX (hk2.trans k4 (by simp;omega));have lga:=yab Bga.out;have lw1:=HkW.out.size;have Bga:=jX (HW3.out.heap Bga.out (by simp));have HkW:=jX (HkW.out.tz HW3.out);have c19:W3.cell? ⟨gi,19,none⟩=some (.bool false):=(yaW b4).opt;have fgi:=yaf b4;have lgi:=yab b4;have Bgi:=jX b4;have hgi3:=hgi;clear b2 hk2 b4 k4 hgi;go_upto_region 3 with (fail)
 have bs:=set_same Bgi.out 19 (.bool true);rw [iC_open,show (⟨⟨kN 2 (by decide),false⟩,⟨kN 4 (by decide),false⟩⟩:Iv K)=exT from rfl] at bs
 obtain⟨W5,e5⟩:∃ W5,W3.setCell ⟨gi,19,none⟩ (.bool true)=W5:=⟨_,rfl⟩;have hk5:Keep [gi] W3 W5:=e5 ▸ Keep.setCell [gi] W3 gi 19 _ (by simp);rw [e5] at bs ⊢;have Bgi:=jX bs;have Bga:=jX (hk5.heap Bga.out (by simp;omega));have HkW:=jX (HkW.out.trans hk5 (by simp;omega));clear c19 fgi lgi e5 hk5 bs;have HM:=jX (MP.start (S:=exS) (by decide) W5);refine yaj (S:=fun u=>Keep [] W5 u) 4 (by kernel_rfl) (by kernel_rfl) (fun _ _ d _ _ h=>by cases d<;>exact h) ?_;have hS0:=Keep.drew [] W5;have HM:=jX (HM.out.move hS0);generalize World.drew W5=u at *;refine jV (v:=.agg (iC exT)) 2 hS0 (fun w hw=>yak _ _ ⟨gi,0,none⟩ _ rfl rfl (ybH _ gi 0 exT (yaW (hw.heap Bgi.out (by simp))))) (fun K hK=>?_);go_simp;refine hK _ ?_;clear hK K;refine yap 0 3 (by kernel_rfl) (by decide) (by decide) (by rfl) (by rfl) (by rfl) (by rfl) (fun K hK=>?_) (fun K hK=>?_)
 ·skip
  refine yae 68 #[.int .i64 0,.int .i64 10] (by go_simp) ?_;refine (H2.out _).mono ?_;rintro e u1 ⟨rfl,hk1⟩;have HM:=jX (HM.out.move hk1);have hS0:=hS0.tz hk1;clear hk1;refine ⟨_,rfl,?_⟩;go_simp;refine hK _ _ hS0 ?_;clear hK K;refine yap 1 3 (by kernel_rfl) (by decide) (by decide) (by rfl) (by rfl) (by rfl) (by rfl) (fun K hK=>?_) (fun K hK=>?_)
  ·skip
   refine yaF (.slice (some ⟨(u1).heap.size,0,none⟩) 1 1) ((u1).alloc (.cells (iC exD) 49)) (yaE 27 1 #[(0,.tmp 4)] #[(0,iv exD)] _ rfl (by simp only [List.map_toArray,List.map_cons,List.map_nil];rfl) (ybr _ _)) ?_;obtain⟨u2,g_u2,e2,e3,hk2,hm2⟩:=HM.out.one exD (yeM (by decide)) (by simp [exS,exD]) (by simp [exS,exD]);rw [e2,e3];clear e2 e3;have HM:=jX hm2;have hS0:=hS0.tz hk2;clear hm2 hk2;go_simp;refine hK _ _ hS0 ?_;clear hK K;refine jO 3 (fun K hK=>?_);refine yaF (.slice (some ⟨(u2).heap.size,0,none⟩) 1 1) ((u2).alloc (.cells (iC exT) 49)) (yaE 27 1 #[(0,.tmp 6)] #[(0,iv exT)] _ rfl (by simp only [List.map_toArray,List.map_cons,List.map_nil];rfl) (ybr _ _)) ?_;obtain⟨u3,g_u3,e2,e3,hk2,hm2⟩:=HM.out.one exT (yeM (by decide)) (by simp [exS,exT]) (by simp [exS,exT]);rw [e2,e3];clear e2 e3;have HM:=jX hm2;have hS0:=hS0.tz hk2;clear hm2 hk2;go_simp;refine hK _ _ hS0 ?_;clear hK K;refine ⟨by kernel_rfl,?_⟩;simp only [List.drop_succ_cons,List.drop_zero];have bz:=jX (HM.out.keep.heap Bga.out (by simp));have pga:=yaa bz.out;have fga:=yaf bz.out;have lga:=yab bz.out;go_wp2_with fail;obtain⟨u9,e9,b9,k9⟩:=st2 (x:=.slice (some ⟨g_u2,0,none⟩) 1 1) (y:=.slice (some ⟨g_u3,0,none⟩) 1 1) bz.out;rw [← e9];clear e9 pga fga lga;have pga:=yaa b9;refine bodyPost_ret (v:=.agg #[.slice (some ⟨g_u2,0,none⟩) 1 1,.slice (some ⟨g_u3,0,none⟩) 1 1]) ?_ rfl ⟨_,_,_,_,rfl,MP.fin H0.out.keep HkW.out HM.out bz.out (by simp) (by omega) k9 ?_⟩
   ·rw [yah rfl];go_simp
   intro p hp;simp only [List.mem_cons] at hp ⊢;grind
  skip
  refine yaF (.slice (some ⟨(u1).heap.size,0,none⟩) 1 1) ((u1).alloc (.cells (iC exT) 49)) (yaE 27 1 #[(0,.tmp 6)] #[(0,iv exT)] _ rfl (by simp only [List.map_toArray,List.map_cons,List.map_nil];rfl) (ybr _ _)) ?_;obtain⟨u2,g_u2,e2,e3,hk2,hm2⟩:=HM.out.one exT (yeM (by decide)) (by simp [exS,exT]) (by simp [exS,exT]);rw [e2,e3];clear e2 e3;have HM:=jX hm2;have hS0:=hS0.tz hk2;clear hm2 hk2;go_simp;refine hK _ _ hS0 ?_;clear hK K;refine jO 1 (fun K hK=>?_);refine yaF (.slice (some ⟨(u2).heap.size,0,none⟩) 1 1) ((u2).alloc (.cells (iC exD) 49)) (yaE 27 1 #[(0,.tmp 4)] #[(0,iv exD)] _ rfl (by simp only [List.map_toArray,List.map_cons,List.map_nil];rfl) (ybr _ _)) ?_;obtain⟨u3,g_u3,e2,e3,hk2,hm2⟩:=HM.out.one exD (yeM (by decide)) (by simp [exS,exD]) (by simp [exS,exD]);rw [e2,e3];clear e2 e3;have HM:=jX hm2;have hS0:=hS0.tz hk2;clear hm2 hk2;go_simp;refine hK _ _ hS0 ?_;clear hK K;refine ⟨by kernel_rfl,?_⟩;simp only [List.drop_succ_cons,List.drop_zero];have bz:=jX (HM.out.keep.heap Bga.out (by simp));have pga:=yaa bz.out;have fga:=yaf bz.out;have lga:=yab bz.out;go_wp2_with fail;obtain⟨u9,e9,b9,k9⟩:=st2 (x:=.slice (some ⟨g_u3,0,none⟩) 1 1) (y:=.slice (some ⟨g_u2,0,none⟩) 1 1) bz.out;rw [← e9];clear e9 pga fga lga;have pga:=yaa b9;refine bodyPost_ret (v:=.agg #[.slice (some ⟨g_u3,0,none⟩) 1 1,.slice (some ⟨g_u2,0,none⟩) 1 1]) ?_ rfl ⟨_,_,_,_,rfl,MP.fin H0.out.keep HkW.out HM.out bz.out (by simp) (by omega) k9 ?_⟩
  ·rw [yah rfl];go_simp
  intro p hp;simp only [List.mem_cons] at hp ⊢;grind
 skip
 refine yaF (.slice (some ⟨(u).heap.size,0,none⟩) 1 1) ((u).alloc (.cells (iC exT) 49)) (yaE 27 1 #[(0,.tmp 6)] #[(0,iv exT)] _ rfl (by simp only [List.map_toArray,List.map_cons,List.map_nil];rfl) (ybr _ _)) ?_;obtain⟨u1,g_u1,e2,e3,hk2,hm2⟩:=HM.out.one exT (yeM (by decide)) (by simp [exS,exT]) (by simp [exS,exT]);rw [e2,e3];clear e2 e3;have HM:=jX hm2;have hS0:=hS0.tz hk2;clear hm2 hk2;go_simp;refine hK _ _ hS0 ?_;clear hK K;refine jO 0 (fun K hK=>?_);refine yae 68 #[.int .i64 0,.int .i64 10] (by go_simp) ?_;refine (H2.out _).mono ?_;rintro e u2 ⟨rfl,hk1⟩;have HM:=jX (HM.out.move hk1);have hS0:=hS0.tz hk1;clear hk1;refine ⟨_,rfl,?_⟩;go_simp;refine hK _ _ hS0 ?_;clear hK K;refine jO 1 (fun K hK=>?_);refine yaF (.slice (some ⟨(u2).heap.size,0,none⟩) 1 1) ((u2).alloc (.cells (iC exD) 49)) (yaE 27 1 #[(0,.tmp 4)] #[(0,iv exD)] _ rfl (by simp only [List.map_toArray,List.map_cons,List.map_nil];rfl) (ybr _ _)) ?_;obtain⟨u3,g_u3,e2,e3,hk2,hm2⟩:=HM.out.one exD (yeM (by decide)) (by simp [exS,exD]) (by simp [exS,exD]);rw [e2,e3];clear e2 e3;have HM:=jX hm2;have hS0:=hS0.tz hk2;clear hm2 hk2;go_simp;refine hK _ _ hS0 ?_;clear hK K;refine ⟨by kernel_rfl,?_⟩;simp only [List.drop_succ_cons,List.drop_zero];have bz:=jX (HM.out.keep.heap Bga.out (by simp));have pga:=yaa bz.out;have fga:=yaf bz.out;have lga:=yab bz.out;go_wp2_with fail;obtain⟨u9,e9,b9,k9⟩:=st2 (x:=.slice (some ⟨g_u3,0,none⟩) 1 1) (y:=.slice (some ⟨g_u1,0,none⟩) 1 1) bz.out;rw [← e9];clear e9 pga fga lga;have pga:=yaa b9;refine bodyPost_ret (v:=.agg #[.slice (some ⟨g_u3,0,none⟩) 1 1,.slice (some ⟨g_u1,0,none⟩) 1 1]) ?_ rfl ⟨_,_,_,_,rfl,MP.fin H0.out.keep HkW.out HM.out bz.out (by simp) (by omega) k9 ?_⟩
 ·rw [yah rfl];go_simp
 intro p hp;simp only [List.mem_cons] at hp ⊢;grind
end
section
open Classical
theorem infoSlB:(prog.info? 56).map (fun i=>(i.size,i.bytes,i.zero.map (·.cells)))=some (1,24,some #[.slice none 0 0]):=by kernel_rfl
theorem fill_s2 (a b:Option Addr) (m k n l:Nat):Instr.fill (fun i=>some (i*1,1)) ((Array.range (2*1)).map ((#[.slice none 0 0]:Array Value)[· % 1]!)) #[(0,Value.slice a m k),(1,Value.slice b n l)].toList=some #[.slice a m k,.slice b n l]:=by kernel_rfl
theorem build2_s (a b:Option Addr) (m k n l:Nat) (w:World):(Instr.buildSlice 115 2 #[(0,.slice a m k),(1,.slice b n l)]).run prog w = .ok (.slice (some ⟨w.heap.size,0,none⟩) 2 2) (w.alloc (.cells #[.slice a m k,.slice b n l] 56)):=by
 have h:=infoSlB;cases hi:prog.info? 56 with
 | none=>rw [hi] at h;cases h
 | some i =>
  rw [hi] at h;simp only [Option.map_some,Option.some.injEq,Prod.mk.injEq] at h;obtain⟨h1,h2,h3⟩:=h;cases hz:i.zero with
  | none=>rw [hz] at h3;cases h3
  | some z =>
   rw [hz] at h3;simp only [Option.map_some,Option.some.injEq] at h3;refine run_buildSlice (P:=prog) w 115 56 2 _ _ i z underlying115 hi hz (by rw [h1];decide) (by rw [h1];decide) ?_;rw [h1,h3];exact fill_s2 _ _ _ _ _ _
def ChPost (S:List K) (w0:World) (L:List (Value × List (Iv K))) (l:List K) (e:Ending) (w':World):Prop:=∃ v,e = .returned v∧KR w' v l∧MP S w0 w' L
section
variable {S:List K} {w0 w w' W:World} {L M:List (Value × List (Iv K))} {D T E U P:List (Iv K)} {da ta ea ua pa:Option Addr} {dc tc ec uc pc:Nat}
theorem MP.mchanges (h:MP S w0 w L) (hD:(.slice da D.length dc,D)∈L) (hT:(.slice ta T.length tc,T)∈L):Calls prog 35 #[.agg #[.slice da D.length dc,.slice ta T.length tc]] w (ChPost S w0 L (ybf (ptsL (D++T)))):=by
 have H0:=jX h;have hd:=h.len hD;have ht:=h.len hT;have hRD:=h.get hD;have hRT:=h.get hT;have HD:=jX (fun w' (hk:Keep [] w w')=>pends_c D w' (.slice da D.length dc) (hRD.later hk) (by omega));have HT:=jX (fun w' (hk:Keep [] w w')=>pends_c T w' (.slice ta T.length tc) (hRT.later hk) (by omega));have HE:=fun (l:List K) hs hm=>ends_two D T (l:=l) hs hm;have l1:(ybf (ptsL D)).length≤5000:=by have:=ydM (ptsL D);rw [ybA] at this;omega
 have l2:(ybf (ptsL T)).length≤5000:=by have:=ydM (ptsL T);rw [ybA] at this;omega
 clear h hD hT hd ht hRD hRT;generalize ybf (ptsL (D++T))=R at *;generalize ybf (ptsL D)=A at *;generalize ybf (ptsL T)=B at *;obtain⟨C,hC⟩:∃ C,A++B=C:=⟨_,rfl⟩;have hCl:C.length≤10000:=by rw [← hC,List.length_append];omega
 have HE:=jX (fun (l:List K) (h1:l.Pairwise (· ≤ ·)) (h2:∀ z,z∈l↔z∈C)=>HE l h1 (by rw [hC];exact h2));have HC0:=jX (fun w g va vb hb hl hm=>concat_k A B w g va vb hb hl hm (by omega));rw [hC] at HC0;clear hC;go_enter func35,ntmps35
 go_upto_region 1 with (fail)
 obtain⟨W,ga,hW,ega,Bga,hga,hgW,HkW⟩:=al1h w (.cells #[.slice da D.length dc,.slice ta T.length tc] 29);rw [← hW];try rw [ega]
 clear hW ega;refine yaj (S:=fun u=>Keep [] W u) 8 (by kernel_rfl) (by kernel_rfl) (fun _ _ d _ _ h=>by cases d<;>exact h) ?_;have hS0:=Keep.drew [] W;generalize World.drew W=u at *;refine' jV (v:=_) 0 hS0 (fun w hw=>?hf0) (fun K hK=>?kf0)
 case hf0=>(have pga:=yaa (hw.heap Bga.out (by simp));go_simp;try rfl)
 go_simp;refine hK _ ?_;clear hK K;refine' jV (v:=_) 1 hS0 (fun w hw=>?hf1) (fun K hK=>?kf1)
 case hf1=>(have pga:=yaa (hw.heap Bga.out (by simp));go_simp;try rfl)
 go_simp;refine hK _ ?_;clear hK K;refine' jV (v:=_) 3 hS0 (fun w hw=>?hf3) (fun K hK=>?kf3)
 case hf3=>(have pga:=yaa (hw.heap Bga.out (by simp));go_simp;try rfl)
 go_simp;refine hK _ ?_;clear hK K;refine' jV (v:=_) 4 hS0 (fun w hw=>?hf4) (fun K hK=>?kf4)
 case hf4=>(have pga:=yaa (hw.heap Bga.out (by simp));go_simp;try rfl)
 go_simp;refine hK _ ?_;clear hK K;refine jO 2 (fun K hK=>?_);refine yae 75 #[.slice da D.length dc] (by go_simp) ?_;refine (HD.out _ (HkW.out.tz hS0)).mono ?_;rintro e w1 ⟨v_w1,rfl,hr_w1,hk_w1⟩;obtain⟨o_w1,c_w1,rfl,_⟩:=hr_w1.form;have R_w1:=jX hr_w1;have hS0:=hS0.tz hk_w1;refine ⟨_,rfl,?_⟩;go_simp;refine hK _ _ hS0 ?_;clear hK K hr_w1;refine jO 5 (fun K hK=>?_);refine yae 75 #[.slice ta T.length tc] (by go_simp) ?_;refine (HT.out _ (HkW.out.tz hS0)).mono ?_;rintro e w2 ⟨v_w2,rfl,hr_w2,hk_w2⟩;obtain⟨o_w2,c_w2,rfl,_⟩:=hr_w2.form;have R_w2:=jX hr_w2;have hS0:=hS0.tz hk_w2;refine ⟨_,rfl,?_⟩;go_simp;refine hK _ _ hS0 ?_;clear hK K hr_w2;have R_w1:=jX (R_w1.out.later hk_w2);clear hk_w1 hk_w2;refine jO 6 (fun K hK=>?_);obtain⟨w3,g3,e1,e2,b3,_,_,hk3⟩:=al1 w2 (.cells #[.slice o_w1 A.length c_w1,.slice o_w2 B.length c_w2] 56);refine yaF (.slice (some ⟨w2.heap.size,0,none⟩) 2 2) (w2.alloc (.cells #[.slice o_w1 A.length c_w1,.slice o_w2 B.length c_w2] 56)) (yaE 115 2 #[(0,.tmp 6),(1,.tmp 9)] #[(0,.slice o_w1 A.length c_w1),(1,.slice o_w2 B.length c_w2)] _ rfl (by simp only [List.map_toArray,List.map_cons,List.map_nil];rfl) (build2_s _ _ _ _ _ _ _)) ?_;rw [← e1,e2];clear e1 e2;have hS0:=hS0.tz hk3;have HK3:=jX (HkW.out.tz hS0);go_simp;refine hK _ _ hS0 ?_;clear hK K;have HC:=jX (HC0.out w3 g3 _ _ b3 (R_w1.out.later hk3) (R_w2.out.later hk3));clear hk3 b3;refine jO 7 (fun K hK=>?_);refine yae 74 #[.slice (some ⟨g3,0,none⟩) 2 2] (by go_simp) ?_;refine HC.out.mono ?_;rintro e w4 ⟨v4,rfl,ho4⟩;have HO:=jX ho4;obtain⟨o4,c4,rfl⟩:=ho4.form;have hS0:=hS0.tz ho4.keep;refine ⟨_,rfl,?_⟩;go_simp;refine hK _ _ hS0 ?_;clear hK K ho4 HC HC0;refine ⟨by kernel_rfl,?_⟩;simp only [List.drop_succ_cons,List.drop_zero];clear hS0;go_wp2_with fail;refine (yfC C w3 w4 (.slice o4 C.length c4) HO.out (by omega)).mono ?_;rintro e w5 ⟨rfl,C5,hp5,hs5,ho5⟩;dsimp only;have HR:=jX (HE.out C5 hs5 (fun z=>hp5.mem_iff));have hl5:C5.length=C.length:=hp5.length_eq;clear hs5 hp5 HE HO;rw [← hl5] at ho5 hCl ⊢;clear hl5;have HO5:=jX ho5;clear ho5;go_wp2_with fail;refine (yhq C5 w3 w5 (.slice o4 C5.length c4) HO5.out (by omega)).mono ?_;rintro e w6 ⟨v6,rfl,hr6,hk6⟩;dsimp only;rw [HR.out] at hr6;have HR6:=jX hr6;have HK6:=jX hk6;clear hr6 hk6;clear HO5;go_wp2_with fail;go_ret
 exact ⟨_,rfl,HR6.out,H0.out.move (HK3.out.tz HK6.out)⟩
end
end
section
open Classical
theorem fld_fromr (f1 f4 f7 t1 t4 t7 o c:Bool) (f2 f3 f5 f6 t2 t3 t5 t6:ByteArray) (w:World):(Instr.field 49 (.agg #[.bool f1,.string f2,.bool false,.string f3,.bool f4,.string f5,.bool false,.string f6,.bool f7,.bool t1,.string t2,.bool false,.string t3,.bool t4,.string t5,.bool false,.string t6,.bool t7,.bool o,.bool c]) 0).run prog w = .ok (.agg #[.bool f1,.string f2,.bool false,.string f3,.bool f4,.string f5,.bool false,.string f6,.bool f7]) w:=by kernel_rfl
theorem ygn (i:Iv K) (w:World):(Instr.field 49 (iv i) 0).run prog w = .ok (kv i.f.pt) w:=by
 rw [ybk,yaI];exact fld_fromr _ _ _ _ _ _ _ _ _ _ _ _ _ _ _ _ w
theorem ydP {o:Oper} {ev:Operand→Value} {w:World} {P:Program} (t:TypeId) (x:Operand) (f:Nat) (vx v:Value) (ho:o.op = .field t x f) (hx:ev x=vx) (h:(Instr.field t vx f).run P w = .ok v w):(execOp ev o).run P w = .ok (.value v) w:=by
 unfold execOp;simp only [ho,hx,Sem.run_bind,Sem.run_pure,Result.andThen_ok,h]
theorem yio {o:Oper} {ev:Operand→Value} {w:World} (op:BinOp) (t:TypeId) (x y:Operand) (s:TypeId) (cx cy:Array Value) (v:Value) (ho:o.op = .binOp op t x y s) (hx:ev x = .agg cx) (hy:ev y = .agg cy) (hg:prog.eqGuardType prog.depth t=false)
  (h:(binOp op t (.agg cx) (.agg cy)).run prog w = .ok v w):(execOp ev o).run prog w = .ok (.value v) w:=by
 unfold execOp;simp only [ho,hx,hy,Sem.run_bind,run_eqGuard_agg (hm:=hg),Result.andThen_ok,h,Sem.run_pure]
theorem kr_shape {w:World} {v:Value} {l:List K} {n:Nat} (h:KR w v l) (hn:l.length=n):∃ a c,v = .slice a n c:=by
 subst hn;rcases h with ⟨h,h2⟩|⟨g,o,c,h,-⟩
 ·exact ⟨none,0,by rw [h,h2];rfl⟩
 exact ⟨_,_,h⟩
def k0:K:=kN 0 (by decide)
def k2:K:=kN 2 (by decide)
def k3:K:=kN 3 (by decide)
def k4:K:=kN 4 (by decide)
def k10:K:=kN 10 (by decide)
def k12:K:=kN 12 (by decide)
def exE:Iv K:=⟨⟨k3,false⟩,⟨k12,true⟩⟩
def exR:Iv K:=⟨⟨k3,false⟩,⟨k10,true⟩⟩
def exU:Iv K:=⟨⟨k3,false⟩,⟨k4,false⟩⟩
theorem ycF (w:World):Calls prog 20 #[] w fun e w'=>e = .returned (.bool true)∧Keep [] w w':=by
 have W22:=jX (yco 2 2 (by decide) (by decide));have W44:=jX (yco 4 4 (by decide) (by decide));have W312:=jX (yco 3 12 (by decide) (by decide));have W310:=jX (yco 3 10 (by decide) (by decide));rw [show (⟨⟨kN 3 (by decide),false⟩,⟨kN 12 (by decide),true⟩⟩:Iv K)=exE from rfl] at W312
 rw [show (⟨⟨kN 3 (by decide),false⟩,⟨kN 10 (by decide),true⟩⟩:Iv K)=exR from rfl] at W310
 rw [show (⟨⟨kN 2 (by decide),false⟩,⟨kN 2 (by decide),true⟩⟩:Iv K)=⟨⟨k2,false⟩,⟨k2,true⟩⟩ from rfl] at W22
 rw [show (⟨⟨kN 4 (by decide),false⟩,⟨kN 4 (by decide),true⟩⟩:Iv K)=⟨⟨k4,false⟩,⟨k4,true⟩⟩ from rfl] at W44
 have h02:k0<k2:=yed.2 (by decide);have h03:k0<k3:=yed.2 (by decide);have h23:k2<k3:=yed.2 (by decide);have h34:k3<k4:=yed.2 (by decide);have h24:k2<k4:=yed.2 (by decide);have h410:k4<k10:=yed.2 (by decide);have h412:k4<k12:=yed.2 (by decide);have h310:k3<k10:=yed.2 (by decide);have h210:k2<k10:=yed.2 (by decide);have h1012:k10<k12:=yed.2 (by decide);have h04:k0<k4:=yed.2 (by decide);have a1:holds [exT] k2=true:=mex_at2 h24;have a2:holds [exD] k2=true:=mex_in h02 h210;have a3:holds [exT] k4=false:=mex_at4;have a4:holds [exD] k4=true:=mex_in h04 h410;have hd:yax 2 [exD] [exE]=[exR]:=mex_d h03 h310 h1012;have ht:yax 2 [exT] [exE]=[exU]:=mex_t h23 h34 h412;have hu:yax 2 [exR] [exU]=[exU]:=mex_u h34 h410;have he:ybf (ptsL ([exD]++[exT]))=[k0,k2,k4,k10]:=mex_ends h02 h24 h410;clear h02 h03 h23 h34 h24 h410 h412 h310 h210 h1012 h04;have HX:=example_c w;have A2:=fun b u M (h:MP exS b u M) da dc ta tc (h1:(Value.slice da [exD].length dc,[exD])∈M) (h2:(Value.slice ta [exT].length tc,[exT])∈M)=>h.mat h1 h2 k2;have A4:=fun b u M (h:MP exS b u M) da dc ta tc (h1:(Value.slice da [exD].length dc,[exD])∈M) (h2:(Value.slice ta [exT].length tc,[exT])∈M)=>h.mat h1 h2 k4;rw [a1,a2] at A2;rw [a3,a4] at A4;have AC:=fun b u M (h:MP exS b u M) da dc ta tc (h1:(Value.slice da [exD].length dc,[exD])∈M) (h2:(Value.slice ta [exT].length tc,[exT])∈M)=>h.mchanges h1 h2;rw [he] at AC;have AL:=fun b u M (h:MP exS b u M) da dc ta tc (h2:(Value.slice ta [exT].length tc,[exT])∈M)=>h.last (m:=0) (da:=da) (D:=[exD]) (dc:=dc) (T:=[exT]) rfl h2;rw [show ([exT][0]'(by decide):Iv K).l.pt=k4 from rfl,show ([exT][0]'(by decide):Iv K).l.beh=false from rfl] at AL
 have AN:=fun b u M (h:MP exS b u M) da dc ta tc ea ec ua uc (h1:(Value.slice da [exD].length dc,[exD])∈M) (h2:(Value.slice ta [exT].length tc,[exT])∈M) (h3:(Value.slice ea [exE].length ec,[exE])∈M) (h4:(Value.slice ua [exE].length uc,[exE])∈M)=>h.mand h1 h2 h3 h4;rw [hd,ht,hu] at AN;clear a1 a2 a3 a4 hd ht hu he;have A2:=jX A2;have A4:=jX A4;have AC:=jX AC;have AL:=jX AL;have AN:=jX AN;generalize [exD]=D at *;generalize [exT]=T at *;go_enter func20,ntmps20
 go_wp2_with fail;refine HX.mono ?_;rintro e w1 ⟨da,dc,ta,tc,rfl,hm⟩;dsimp only;have HK:=jX hm.keep;have HM:=jX hm.here;clear hm HX;go_upto_region 2 with (fail)
 obtain⟨W_g1,g1,e2,e3,b2,hg1,_,hk2⟩:=al1 w1 (.cells #[.slice da D.length dc,.slice ta T.length tc] 29);rw [← e2,e3];clear e2 e3;have HK:=jX (HK.out.tz hk2);have HM:=jX (HM.out.move hk2).here;have Bg1:=jX b2;clear b2 hk2 hg1;refine yaj (S:=fun u=>Keep [] W_g1 u) 8 (by kernel_rfl) (by kernel_rfl) (fun _ _ d _ _ h=>by cases d<;>exact h) ?_;have hS0:=Keep.drew [] W_g1;have HM:=jX (HM.out.move hS0).here;generalize World.drew W_g1=u at *;refine' jG (v:=_) 0 hS0 (fun w hw=>?hf0) (fun K hK=>?kf0)
 case hf0=>(have pg1:=yaa (hw.heap Bg1.out (by simp));go_simp;try rfl)
 go_simp;refine hK _ ?_;clear hK K;refine jP 1 (fun K hK=>?_);refine yae 68 #[.int .i64 2,.int .i64 2] (by go_simp) ?_;refine (W22.out _).mono ?_;rintro e u1_w3 ⟨rfl,hk⟩;have HM:=jX (HM.out.move hk).here;have hS0:=hS0.tz hk;refine ⟨_,rfl,?_⟩;go_simp;refine hK _ _ hS0 ?_;clear hK K hk;refine jG (v:=.agg (kC k2)) 2 hS0 (fun w hw=>ydP _ _ 0 _ _ rfl rfl (ygn _ _)) (fun K hK=>?_);go_simp;refine hK _ ?_;clear hK K;refine jP 3 (fun K hK=>?_);refine yae 17 #[.agg #[.slice da D.length dc,.slice ta T.length tc],.agg (kC k2)] (by go_simp) ?_;refine (A2.out _ _ _ HM.out _ _ _ _ (by simp) (by simp)).mono ?_;rintro e w3 ⟨rfl,hm_w3⟩;have hk:=hm_w3.keep;have HM:=jX hm_w3.here;clear hm_w3;have hS0:=hS0.tz hk;refine ⟨_,rfl,?_⟩;go_simp;refine hK _ _ hS0 ?_;clear hK K hk;refine' jG (v:=_) 4 hS0 (fun w hw=>?hf4) (fun K hK=>?kf4)
 case hf4=>(go_simp;try rfl)
 go_simp;refine hK _ ?_;clear hK K;refine' jG (v:=_) 5 hS0 (fun w hw=>?hf5) (fun K hK=>?kf5)
 case hf5=>(go_simp;try rfl)
 go_simp;refine hK _ ?_;clear hK K;refine' jG (v:=_) 6 hS0 (fun w hw=>?hf6) (fun K hK=>?kf6)
 case hf6=>(go_simp;try rfl)
 go_simp;refine hK _ ?_;clear hK K;refine' jG (v:=_) 7 hS0 (fun w hw=>?hf7) (fun K hK=>?kf7)
 case hf7=>(go_simp;try rfl)
 go_simp;refine hK _ ?_;clear hK K;refine ⟨by kernel_rfl,?_⟩;simp only [List.drop_succ_cons,List.drop_zero];have HK:=jX (HK.out.tz hS0);have Bg1:=jX (hS0.heap Bg1.out (by simp));clear hS0;go_upto_region 3 with (fail)
 refine yaj (S:=fun u=>Keep [] w3 u) 8 (by kernel_rfl) (by kernel_rfl) (fun _ _ d _ _ h=>by cases d<;>exact h) ?_;have hS0:=Keep.drew [] w3;have HM:=jX (HM.out.move hS0).here;generalize World.drew w3=u at *;refine' jG (v:=_) 0 hS0 (fun w hw=>?hg0) (fun K hK=>?kg0)
 case hg0=>(have pg1:=yaa (hw.heap Bg1.out (by simp));go_simp;try rfl)
 go_simp;refine hK _ ?_;clear hK K;refine jP 1 (fun K hK=>?_);refine yae 68 #[.int .i64 4,.int .i64 4] (by go_simp) ?_;refine (W44.out _).mono ?_;rintro e u1_w4 ⟨rfl,hk⟩;have HM:=jX (HM.out.move hk).here;have hS0:=hS0.tz hk;refine ⟨_,rfl,?_⟩;go_simp;refine hK _ _ hS0 ?_;clear hK K hk;refine jG (v:=.agg (kC k4)) 2 hS0 (fun w hw=>ydP _ _ 0 _ _ rfl rfl (ygn _ _)) (fun K hK=>?_);go_simp;refine hK _ ?_;clear hK K;refine jP 3 (fun K hK=>?_);refine yae 17 #[.agg #[.slice da D.length dc,.slice ta T.length tc],.agg (kC k4)] (by go_simp) ?_;refine (A4.out _ _ _ HM.out _ _ _ _ (by simp) (by simp)).mono ?_;rintro e w4 ⟨rfl,hm_w4⟩;have hk:=hm_w4.keep;have HM:=jX hm_w4.here;clear hm_w4;have hS0:=hS0.tz hk;refine ⟨_,rfl,?_⟩;go_simp;refine hK _ _ hS0 ?_;clear hK K hk;refine' jG (v:=_) 4 hS0 (fun w hw=>?hg4) (fun K hK=>?kg4)
 case hg4=>(go_simp;try rfl)
 go_simp;refine hK _ ?_;clear hK K;refine' jG (v:=_) 5 hS0 (fun w hw=>?hg5) (fun K hK=>?kg5)
 case hg5=>(go_simp;try rfl)
 go_simp;refine hK _ ?_;clear hK K;refine' jG (v:=_) 6 hS0 (fun w hw=>?hg6) (fun K hK=>?kg6)
 case hg6=>(go_simp;try rfl)
 go_simp;refine hK _ ?_;clear hK K;refine' jG (v:=_) 7 hS0 (fun w hw=>?hg7) (fun K hK=>?kg7)
 case hg7=>(go_simp;try rfl)
 go_simp;refine hK _ ?_;clear hK K;refine ⟨by kernel_rfl,?_⟩;simp only [List.drop_succ_cons,List.drop_zero];have HK:=jX (HK.out.tz hS0);have Bg1:=jX (hS0.heap Bg1.out (by simp));clear hS0;go_upto_region 4 with (fail)
 refine yeO (S:=fun u=>Keep [] w4 u) 6 [(6,29)] (fun _=>.cells #[.slice none 0 0,.slice none 0 0] 29) (by kernel_rfl) (by kernel_rfl) (by kernel_rfl) (fun t ht ev w o ho=>(by simp at ht;subst ht;exact al_bool ev w o ho)) (fun _ _ d _ _ h=>by cases d<;>exact h) (fun _ _ d _ _ h=>by cases d<;>exact h) (fun _ _ h k=>h.tz k) ?_;simp only [List.map_cons,List.map_nil,unal,isAl,if_true,if_false,Bool.false_eq_true];have hS0:=Keep.drew [] w4;have HM:=jX (HM.out.move hS0).here;generalize World.drew w4=u at *;refine' jN (v:=_) 0 hS0 (fun _ _ h k=>h.tz k) (fun w hw=>?hh0) (fun K hK=>?kh0)
 case hh0=>(have pg1:=yaa (hw.heap Bg1.out (by simp));go_simp;try rfl)
 go_simp;refine hK _ ?_;clear hK K;refine' jN (v:=_) 5 hS0 (fun _ _ h k=>h.tz k) (fun w hw=>?hh5) (fun K hK=>?kh5)
 case hh5=>(go_simp;try rfl)
 go_simp;refine hK _ ?_;clear hK K;refine jM 1 (fun u hu K hK=>?_);have HM:=jX (HM.out.move hu).here;have hS0:=hS0.tz hu;clear hu;refine yae 68 #[.int .i64 3,.int .i64 12] (by go_simp) ?_;refine (W312.out _).mono ?_;rintro e w5 ⟨rfl,hk⟩;have HM:=jX (HM.out.move hk).here;have hS0:=hS0.tz hk;refine ⟨_,rfl,?_⟩;go_simp;refine hK _ _ hS0 hk ?_;clear hK K hk;refine jM 2 (fun u hu K hK=>?_);have HM:=jX (HM.out.move hu).here;have hS0:=hS0.tz hu;clear hu;refine yaF (.slice (some ⟨u.heap.size,0,none⟩) 1 1) (u.alloc (.cells (iC exE) 49)) (yaE 27 1 #[(0,.tmp 26)] #[(0,iv exE)] _ rfl (by simp only [List.map_toArray,List.map_cons,List.map_nil];rfl) (ybr _ _)) ?_;obtain⟨w6,gE,e2,e3,hk2,hm2⟩:=HM.out.one exE (yeM (by decide)) (by simp [exS,exE,k3]) (by simp [exS,exE,k12]);rw [e2,e3];clear e2 e3;have HM:=jX hm2.here;have hS0:=hS0.tz hk2;clear hm2;go_simp;refine hK _ _ hS0 hk2 ?_;clear hK K hk2;refine jM 3 (fun u hu K hK=>?_);have HM:=jX (HM.out.move hu).here;have hS0:=hS0.tz hu;clear hu;refine yae 58 #[.bool true,.slice (some ⟨gE,0,none⟩) 1 1] (by go_simp) ?_;refine (HM.out.mconst1 (P:=[exE]) (pa:=some ⟨gE,0,none⟩) (pc:=1) (by simp)).mono ?_;rintro e w7 ⟨da_w7,dc_w7,ta_w7,tc_w7,rfl,hm_w7⟩;have hk:=hm_w7.keep;have HM:=jX hm_w7.here;clear hm_w7;have hS0:=hS0.tz hk;refine ⟨_,rfl,?_⟩;go_simp;refine hK _ _ hS0 hk ?_;clear hK K hk;refine jM 4 (fun u hu K hK=>?_);have HM:=jX (HM.out.move hu).here;have hS0:=hS0.tz hu;clear hu;refine yae 29 #[.agg #[.slice da D.length dc,.slice ta T.length tc],.agg #[.slice da_w7 [exE].length dc_w7,.slice ta_w7 [exE].length tc_w7]] (by go_simp) ?_;refine (AN.out _ _ _ HM.out _ _ _ _ _ _ _ _ (by simp) (by simp) (by simp) (by simp)).mono ?_;rintro e w8 ⟨da_w8,dc_w8,ta_w8,tc_w8,rfl,hm_w8⟩;have hk:=hm_w8.keep;have HM:=jX hm_w8.here;clear hm_w8;have hS0:=hS0.tz hk;refine ⟨_,rfl,?_⟩;go_simp;refine hK _ _ hS0 hk ?_;clear hK K hk;intro w9 hu;have HM:=jX (HM.out.move hu).here;have hS0:=hS0.tz hu;clear hu;refine ⟨by kernel_rfl,fun p hp1 hp2 _ hz=>?_⟩;simp only [List.map_cons,List.map_nil,pl,List.drop_succ_cons,List.drop_zero];have bn:=hz (6,29) (by simp);have hgn:=hp1 6 (by simp);dsimp only at bn;generalize p 6=gn at *;clear hz hp1 hp2 p;go_simp;refine yam (by rfl) _ _ _ rfl gn #[.slice da_w8 [exR].length dc_w8,.slice ta_w8 [exU].length tc_w8] rfl rfl _ _ bn (by exact b_size) (by rfl) (b_one _ _ _ _ _ _) (fun K hK=>?_);obtain⟨w10,e5,b5,k5⟩:=yal (cs:=#[.slice da_w8 [exR].length dc_w8,.slice ta_w8 [exU].length tc_w8]) bn;rw [e5];go_simp;refine hK _ _ ?_;clear hK K e5;have HM:=jX ((HM.out.re hS0).put bn (by simp) k5 hgn);have hk:=HM.out.keep;have HM:=jX HM.out.here;have HK:=jX (HK.out.tz hk);have Bg1:=jX (hk.heap Bg1.out (by simp));have Bgn:=jX b5;clear hS0 b5 k5 bn hgn hk;go_upto_region 5 with (fail)
 refine wp_region_lit ?_;have pg1:=yaa Bg1.out;refine' yad (v:=_) (by rfl) (?ha) (fun K hK=>?ka)
 case ha=>(go_simp;try rfl)
 go_simp;refine hK _ _ ?_;clear hK K;clear pg1;refine wpList_plain (by rfl) (fun K hK=>?_);refine yae 25 #[.agg #[.slice da D.length dc,.slice ta T.length tc]] (by go_simp) ?_;refine (AL.out _ _ _ HM.out _ _ _ _ (by simp)).mono ?_;rintro e w11 ⟨rfl,hm⟩;have hk:=hm.keep;have HM:=jX hm.here;have HK:=jX (HK.out.tz hk);have Bg1:=jX (hk.heap Bg1.out (by simp));have Bgn:=jX (hk.heap Bgn.out (by simp));clear hm hk;refine ⟨_,rfl,?_⟩;go_simp;refine hK _ _ ?_;clear hK K;refine' yad (v:=_) (by rfl) (?hb) (fun K hK=>?kb)
 case hb=>(go_simp;try rfl)
 go_simp;refine hK _ _ ?_;clear hK K;refine' yad (v:=_) (by rfl) (?hc) (fun K hK=>?kc)
 case hc=>(go_simp;try rfl)
 go_simp;refine hK _ _ ?_;clear hK K;refine' yad (v:=_) (by rfl) (?hd) (fun K hK=>?kd)
 case hd=>(go_simp;try rfl)
 go_simp;refine hK _ _ ?_;clear hK K;refine' yad (v:=_) (by rfl) (?he) (fun K hK=>?ke)
 case he=>(go_simp;try rfl)
 go_simp;refine hK _ _ ?_;clear hK K;obtain⟨w12,gt,e2,e3,b2,hgt,_,hk2⟩:=al1 w11 (.cells #[.bool false,.string ⟨#[]⟩,.bool false,.string ⟨#[]⟩,.bool false,.string ⟨#[]⟩,.bool false,.string ⟨#[]⟩,.bool false] 36);refine yaq (v:=.pointer (some ⟨w11.heap.size,0,none⟩)) (w':=w11.alloc (.cells #[.bool false,.string ⟨#[]⟩,.bool false,.string ⟨#[]⟩,.bool false,.string ⟨#[]⟩,.bool false,.string ⟨#[]⟩,.bool false] 36)) (by rfl) (yid _ _ _ rfl) (fun K hK=>?_);rw [← e2,e3];clear e2 e3;go_simp;refine hK _ _ ?_;clear hK K;refine yam (by rfl) _ _ _ rfl gt (kC k4) rfl rfl _ _ b2 (by exact k_size) (by rfl) (all_oneCell_toArray (yaS k4.1)) (fun K hK=>?_);obtain⟨w13,e4,b4,k4'⟩:=yal (cs:=kC k4) b2;rw [e4];go_simp;refine hK _ _ ?_;clear hK K e4;have hk:=hk2.trans k4' (by simp;omega);have HM:=jX (HM.out.move hk).here;have HK:=jX (HK.out.tz hk);have Bg1:=jX (hk.heap Bg1.out (by simp));have Bgn:=jX (hk.heap Bgn.out (by simp));have Bgt:=jX b4;clear hk hk2 k4' b2 b4 hgt;go_upto_region 6 with (fail)
 obtain⟨g5,o5,hg5,hgl5,hat5⟩:=IvR.elem (HM.out.get (v:=.slice da_w8 [exR].length dc_w8) (l:=[exR]) (by simp)) 0 (by simp);obtain⟨g6,o6,hg6,hgl6,hat6⟩:=IvR.elem (HM.out.get (v:=.slice ta_w8 [exU].length tc_w8) (l:=[exU]) (by simp)) 0 (by simp);subst hg5 hg6;have hat5:IvAt w13 g5 o5 exR:=by simpa using hat5
 have hat6:IvAt w13 g6 o6 exU:=by simpa using hat6
 have HA5:=jX (fun u (hk:Keep [] w13 u)=>ybH u g5 o5 exR (hat5.keep (hk.block g5 hgl5 (by simp))));have HA6:=jX (fun u (hk:Keep [] w13 u)=>(hat6.keep (hk.block g6 hgl6 (by simp))).opt);clear hat5 hat6;have HA7:=jX (fun u (hk:Keep [] w13 u)=>kw_k Bgt.out ⟨u,hk⟩)
 have HE4:Hid (∀ w:World,(binOp .eql 36 (kv k4) (kv k4)).run prog w = .ok (.bool true) w):=jX (fun w=>by
  rw [eqR_run]
  simp)
 refine yaj (S:=fun u=>Keep [] w13 u) 58 (by kernel_rfl) (by kernel_rfl) (fun _ _ d _ _ h=>by cases d<;>exact h) ?_;have hS0:=Keep.drew [] w13;have HM:=jX (HM.out.move hS0).here;generalize World.drew w13=u at *;refine' jG (v:=_) 0 hS0 (fun w hw=>?hz0) (fun K hK=>?kz0)
 case hz0=>(go_simp;try rfl)
 go_simp;refine hK _ ?_;clear hK K;refine' jG (v:=_) 1 hS0 (fun w hw=>?hz1) (fun K hK=>?kz1)
 case hz1=>(go_simp;try rfl)
 go_simp;refine hK _ ?_;clear hK K;refine' jG (v:=_) 2 hS0 (fun w hw=>?hz2) (fun K hK=>?kz2)
 case hz2=>(go_simp;try rfl)
 go_simp;refine hK _ ?_;clear hK K;refine' jG (v:=_) 3 hS0 (fun w hw=>?hz3) (fun K hK=>?kz3)
 case hz3=>(go_simp;try rfl)
 go_simp;refine hK _ ?_;clear hK K;refine' jG (v:=_) 4 hS0 (fun w hw=>?hz4) (fun K hK=>?kz4)
 case hz4=>(go_simp;try rfl)
 go_simp;refine hK _ ?_;clear hK K;refine' jG (v:=_) 5 hS0 (fun w hw=>?hz5) (fun K hK=>?kz5)
 case hz5=>(go_simp;try rfl)
 go_simp;refine hK _ ?_;clear hK K;refine' jG (v:=_) 6 hS0 (fun w hw=>?hz6) (fun K hK=>?kz6)
 case hz6=>(go_simp;try rfl)
 go_simp;refine hK _ ?_;clear hK K;refine' jG (v:=_) 7 hS0 (fun w hw=>?hz7) (fun K hK=>?kz7)
 case hz7=>(go_simp;try rfl)
 go_simp;refine hK _ ?_;clear hK K;refine' jG (v:=_) 8 hS0 (fun w hw=>?hz8) (fun K hK=>?kz8)
 case hz8=>(go_simp;try rfl)
 go_simp;refine hK _ ?_;clear hK K;refine' jG (v:=_) 9 hS0 (fun w hw=>?hz9) (fun K hK=>?kz9)
 case hz9=>(go_simp;try rfl)
 go_simp;refine hK _ ?_;clear hK K;refine' jG (v:=_) 10 hS0 (fun w hw=>?hz10) (fun K hK=>?kz10)
 case hz10=>(go_simp;try rfl)
 go_simp;refine hK _ ?_;clear hK K;refine' jG (v:=_) 11 hS0 (fun w hw=>?hz11) (fun K hK=>?kz11)
 case hz11=>(go_simp;try rfl)
 go_simp;refine hK _ ?_;clear hK K;refine' jG (v:=_) 12 hS0 (fun w hw=>?hz12) (fun K hK=>?kz12)
 case hz12=>(go_simp;try rfl)
 go_simp;refine hK _ ?_;clear hK K;refine' jG (v:=_) 13 hS0 (fun w hw=>?hz13) (fun K hK=>?kz13)
 case hz13=>(have pgn:=yaa (hw.heap Bgn.out (by simp));go_simp;try rfl)
 go_simp;refine hK _ ?_;clear hK K;refine' jG (v:=_) 14 hS0 (fun w hw=>?hz14) (fun K hK=>?kz14)
 case hz14=>(go_simp;try rfl)
 go_simp;refine hK _ ?_;clear hK K;refine' jG (v:=_) 15 hS0 (fun w hw=>?hz15) (fun K hK=>?kz15)
 case hz15=>(go_simp;try rfl)
 go_simp;refine hK _ ?_;clear hK K;refine' jG (v:=_) 16 hS0 (fun w hw=>?hz16) (fun K hK=>?kz16)
 case hz16=>(go_simp;try rfl)
 go_simp;refine hK _ ?_;clear hK K;refine' jG (v:=_) 17 hS0 (fun w hw=>?hz17) (fun K hK=>?kz17)
 case hz17=>(go_simp;try rfl)
 go_simp;refine hK _ ?_;clear hK K;refine' jG (v:=_) 18 hS0 (fun w hw=>?hz18) (fun K hK=>?kz18)
 case hz18=>(go_simp;try rfl)
 go_simp;refine hK _ ?_;clear hK K;refine' jG (v:=_) 19 hS0 (fun w hw=>?hz19) (fun K hK=>?kz19)
 case hz19=>(have pgn:=yaa (hw.heap Bgn.out (by simp));go_simp;try rfl)
 go_simp;refine hK _ ?_;clear hK K;refine' jG (v:=_) 20 hS0 (fun w hw=>?hz20) (fun K hK=>?kz20)
 case hz20=>(go_simp;try rfl)
 go_simp;refine hK _ ?_;clear hK K;refine jG (v:=iv exR) 21 hS0 (fun w hw=>yak _ _ ⟨g5,o5,none⟩ _ rfl rfl (HA5.out w hw)) (fun K hK=>?_);go_simp;refine hK _ ?_;clear hK K;refine jP 22 (fun K hK=>?_);refine yae 68 #[.int .i64 3,.int .i64 10] (by go_simp) ?_;refine (W310.out _).mono ?_;rintro e w14 ⟨rfl,hk⟩;have HM:=jX (HM.out.move hk).here;have hS0:=hS0.tz hk;refine ⟨_,rfl,?_⟩;go_simp;refine hK _ _ hS0 ?_;clear hK K hk;refine jG (v:=.bool true) 23 hS0 (fun w hw=>yio _ _ _ _ _ (iC exR) (iC exR) _ rfl rfl rfl eqI_g (eqT_run exR w)) (fun K hK=>?_);go_simp;refine hK _ ?_;clear hK K;refine' jG (v:=_) 24 hS0 (fun w hw=>?hz24) (fun K hK=>?kz24)
 case hz24=>(go_simp;try rfl)
 go_simp;refine hK _ ?_;clear hK K;refine' jG (v:=_) 25 hS0 (fun w hw=>?hz25) (fun K hK=>?kz25)
 case hz25=>(go_simp;try rfl)
 go_simp;refine hK _ ?_;clear hK K;refine' jG (v:=_) 26 hS0 (fun w hw=>?hz26) (fun K hK=>?kz26)
 case hz26=>(go_simp;try rfl)
 go_simp;refine hK _ ?_;clear hK K;refine' jG (v:=_) 27 hS0 (fun w hw=>?hz27) (fun K hK=>?kz27)
 case hz27=>(have pgn:=yaa (hw.heap Bgn.out (by simp));go_simp;try rfl)
 go_simp;refine hK _ ?_;clear hK K;refine' jG (v:=_) 28 hS0 (fun w hw=>?hz28) (fun K hK=>?kz28)
 case hz28=>(go_simp;try rfl)
 go_simp;refine hK _ ?_;clear hK K;refine' jG (v:=_) 29 hS0 (fun w hw=>?hz29) (fun K hK=>?kz29)
 case hz29=>(go_simp;try rfl)
 go_simp;refine hK _ ?_;clear hK K;refine' jG (v:=_) 30 hS0 (fun w hw=>?hz30) (fun K hK=>?kz30)
 case hz30=>(go_simp;try rfl)
 go_simp;refine hK _ ?_;clear hK K;refine' jG (v:=_) 31 hS0 (fun w hw=>?hz31) (fun K hK=>?kz31)
 case hz31=>(go_simp;try rfl)
 go_simp;refine hK _ ?_;clear hK K;refine' jG (v:=_) 32 hS0 (fun w hw=>?hz32) (fun K hK=>?kz32)
 case hz32=>(go_simp;try rfl)
 go_simp;refine hK _ ?_;clear hK K;refine' jG (v:=_) 33 hS0 (fun w hw=>?hz33) (fun K hK=>?kz33)
 case hz33=>(have pgn:=yaa (hw.heap Bgn.out (by simp));go_simp;try rfl)
 go_simp;refine hK _ ?_;clear hK K;refine' jG (v:=_) 34 hS0 (fun w hw=>?hz34) (fun K hK=>?kz34)
 case hz34=>(go_simp;try rfl)
 go_simp;refine hK _ ?_;clear hK K;refine' jG (v:=_) 35 hS0 (fun w hw=>?hz35) (fun K hK=>?kz35)
 case hz35=>(go_simp;try rfl)
 go_simp;refine hK _ ?_;clear hK K;refine' jG (v:=_) 36 hS0 (fun w hw=>?hz36) (fun K hK=>?kz36)
 case hz36=>(have pA:=HA6.out w hw;go_simp;try rfl)
 go_simp;refine hK _ ?_;clear hK K;refine' jG (v:=_) 37 hS0 (fun w hw=>?hz37) (fun K hK=>?kz37)
 case hz37=>(go_simp;try rfl)
 go_simp;refine hK _ ?_;clear hK K;refine' jG (v:=_) 38 hS0 (fun w hw=>?hz38) (fun K hK=>?kz38)
 case hz38=>(go_simp;try rfl)
 go_simp;refine hK _ ?_;clear hK K;refine' jG (v:=_) 39 hS0 (fun w hw=>?hz39) (fun K hK=>?kz39)
 case hz39=>(go_simp;try rfl)
 go_simp;refine hK _ ?_;clear hK K;refine' jG (v:=_) 40 hS0 (fun w hw=>?hz40) (fun K hK=>?kz40)
 case hz40=>(go_simp;try rfl)
 go_simp;refine hK _ ?_;clear hK K;refine' jG (v:=_) 41 hS0 (fun w hw=>?hz41) (fun K hK=>?kz41)
 case hz41=>(go_simp;try rfl)
 go_simp;refine hK _ ?_;clear hK K;refine' jG (v:=_) 42 hS0 (fun w hw=>?hz42) (fun K hK=>?kz42)
 case hz42=>(go_simp;try rfl)
 go_simp;refine hK _ ?_;clear hK K;refine jG (v:=.agg (kC k4)) 43 hS0 (fun w hw=>yak _ _ ⟨gt,0,none⟩ _ rfl rfl (HA7.out w hw)) (fun K hK=>?_);go_simp;refine hK _ ?_;clear hK K;refine jP 44 (fun K hK=>?_);refine yae 68 #[.int .i64 4,.int .i64 4] (by go_simp) ?_;refine (W44.out _).mono ?_;rintro e w15 ⟨rfl,hk⟩;have HM:=jX (HM.out.move hk).here;have hS0:=hS0.tz hk;refine ⟨_,rfl,?_⟩;go_simp;refine hK _ _ hS0 ?_;clear hK K hk;refine jG (v:=.agg (kC k4)) 45 hS0 (fun w hw=>ydP _ _ 0 _ _ rfl rfl (ygn _ _)) (fun K hK=>?_);go_simp;refine hK _ ?_;clear hK K;refine jG (v:=.bool true) 46 hS0 (fun w hw=>yio _ _ _ _ _ (kC k4) (kC k4) _ rfl rfl rfl eqR_g (HE4.out w)) (fun K hK=>?_);go_simp;refine hK _ ?_;clear hK K;refine' jG (v:=_) 47 hS0 (fun w hw=>?hz47) (fun K hK=>?kz47)
 case hz47=>(go_simp;try rfl)
 go_simp;refine hK _ ?_;clear hK K;refine' jG (v:=_) 48 hS0 (fun w hw=>?hz48) (fun K hK=>?kz48)
 case hz48=>(go_simp;try rfl)
 go_simp;refine hK _ ?_;clear hK K;refine' jG (v:=_) 49 hS0 (fun w hw=>?hz49) (fun K hK=>?kz49)
 case hz49=>(go_simp;try rfl)
 go_simp;refine hK _ ?_;clear hK K;refine' jG (v:=_) 50 hS0 (fun w hw=>?hz50) (fun K hK=>?kz50)
 case hz50=>(go_simp;try rfl)
 go_simp;refine hK _ ?_;clear hK K;refine' jG (v:=_) 51 hS0 (fun w hw=>?hz51) (fun K hK=>?kz51)
 case hz51=>(go_simp;try rfl)
 go_simp;refine hK _ ?_;clear hK K;refine' jG (v:=_) 52 hS0 (fun w hw=>?hz52) (fun K hK=>?kz52)
 case hz52=>(go_simp;try rfl)
 go_simp;refine hK _ ?_;clear hK K;refine' jG (v:=_) 53 hS0 (fun w hw=>?hz53) (fun K hK=>?kz53)
 case hz53=>(have pg1:=yaa (hw.heap Bg1.out (by simp));go_simp;try rfl)
 go_simp;refine hK _ ?_;clear hK K;refine jP 54 (fun K hK=>?_);refine yae 35 #[.agg #[.slice da D.length dc,.slice ta T.length tc]] (by go_simp) ?_;refine (AC.out _ _ _ HM.out _ _ _ _ (by simp) (by simp)).mono ?_;rintro e w16 ⟨v,rfl,hv,hm_w16⟩;obtain⟨va,vc,rfl⟩:=kr_shape hv (n:=4) rfl;clear hv;have hk:=hm_w16.keep;have HM:=jX hm_w16.here;clear hm_w16;have hS0:=hS0.tz hk;refine ⟨_,rfl,?_⟩;go_simp;refine hK _ _ hS0 ?_;clear hK K hk;refine' jG (v:=_) 55 hS0 (fun w hw=>?hz55) (fun K hK=>?kz55)
 case hz55=>(go_simp;try rfl)
 go_simp;refine hK _ ?_;clear hK K;refine' jG (v:=_) 56 hS0 (fun w hw=>?hz56) (fun K hK=>?kz56)
 case hz56=>(go_simp;try rfl)
 go_simp;refine hK _ ?_;clear hK K;refine' jG (v:=_) 57 hS0 (fun w hw=>?hz57) (fun K hK=>?kz57)
 case hz57=>(go_simp;try rfl)
 go_simp;refine hK _ ?_;clear hK K;refine ⟨by kernel_rfl,?_⟩;simp only [List.drop_succ_cons,List.drop_zero];have HK:=jX (HK.out.tz hS0);clear hS0;go_wp2_with fail;go_ret
 exact ⟨rfl,HK.out⟩
end
end Go.Proofs.YtejegogbhpmgfaaGreatDoor
