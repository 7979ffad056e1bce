/- Parts of a proof: Fr Fs Ft Fu. -/
import Derived.Test.YtpgffjjpiafhpaaGreatDoorU36
import Derived.Test.YtpgffjjpiafhpaaGreatDoorU15
set_option linter.unusedVariables false
set_option linter.unusedSimpArgs false
set_option maxRecDepth 100000
set_option maxHeartbeats 8000000
namespace Go.Proofs.YtpgffjjpiafhpaaGreatDoor
open Go.RowKit Tryz
section
open Classical
def clI (a b:K):Iv K:=⟨⟨a,false⟩,⟨b,true⟩⟩
theorem pclosed_c (p q:Rat) (hp:FitQ 100000 p) (hq:FitQ 100000 q) (hlt:kQ p hp<kQ q hq) (w:World) :
  Calls prog 25 #[rv p,rv q] w fun e w'=>∃ v,e = .returned v∧IvR w' v [clI (kQ p hp) (kQ q hq)]∧Keep [] w w':=by
 have H1:=jX (FromRat_c p hp);have H2:=jX (FromRat_c q hq);rw [show kv (kQ p hp) = .agg (kC (kQ p hp)) from rfl] at H1
 rw [show kv (kQ q hq) = .agg (kC (kQ q hq)) from rfl] at H2
 have HBd:=jX (yeJ (kQ p hp) (kQ q hq));rw [show kv (kQ p hp) = .agg (kC (kQ p hp)) from rfl,show kv (kQ q hq) = .agg (kC (kQ q hq)) from rfl] at HBd
 have hv:(clI (kQ p hp) (kQ q hq)).f<(clI (kQ p hp) (kQ q hq)).l:=.inl hlt
 have hn:cmpB (clI (kQ p hp) (kQ q hq)).f (clI (kQ p hp) (kQ q hq)).l = -1:=by
  rcases ycW (clI (kQ p hp) (kQ q hq)).f (clI (kQ p hp) (kQ q hq)).l with ⟨_,g⟩|⟨h,_⟩|⟨_,g⟩
  ·exfalso;grind
  ·exact h
  exfalso;rw [g] at hv;grind
 have H3:=jX (yfi (clI (kQ p hp) (kQ q hq)));have H4:=jX (yhl (clI (kQ p hp) (kQ q hq)));have H5:=jX (yfk (clI (kQ p hp) (kQ q hq)).f (clI (kQ p hp) (kQ q hq)).l);rw [hn] at H5;have hI:(⟨⟨kQ p hp,false⟩,⟨kQ q hq,true⟩⟩:Iv K)=clI (kQ p hp) (kQ q hq):=rfl;rw [hI] at HBd;clear hv hn hI hlt;generalize clI (kQ p hp) (kQ q hq)=I at *;generalize kC (kQ p hp)=F at *;generalize kC (kQ q hq)=L at *;rw [show bv I.f = .agg (bC I.f) from rfl] at H3 H5
 rw [show bv I.l = .agg (bC I.l) from rfl] at H4 H5
 rw [show iv I = .agg (iC I) from rfl] at H3 H4
 unfold rv at *;generalize sgB (p).num=n1 at *;generalize mgS (p).num=s1 at *;generalize dnS (p).den=d1 at *;generalize sgB (q).num=n2 at *;generalize mgS (q).num=s2 at *;generalize dnS (q).den=d2 at *;go_enter func25,ntmps25
 go_upto_region 1 with (fail)
 obtain⟨W,ga,gb,hW,ega,egb,Bga,Bgb,hga,hgb,hgW,HkW⟩:=al2h w (.cells #[.bool n1,.string s1,.bool false,.string d1] 28) (.cells #[.bool n2,.string s2,.bool false,.string d2] 28);rw [← hW];try rw [egb]
 try rw [ega]
 clear hW ega egb;refine yaF 6 [(5,32)] (fun _=>.cells #[.bool false,.string ⟨#[]⟩,.bool false,.string ⟨#[]⟩,.bool false,.string ⟨#[]⟩,.bool false,.string ⟨#[]⟩,.bool false,.bool false,.string ⟨#[]⟩,.bool false,.string ⟨#[]⟩,.bool false,.string ⟨#[]⟩,.bool false,.string ⟨#[]⟩,.bool false,.bool false,.bool false] 32) (by kernel_rfl) (by kernel_rfl) (by kernel_rfl) (fun t ht ev w o ho=>by simp at ht;subst ht;exact ygi ev w o ho) ?_;intro U hU;have kga:=yag (hU.heap Bga.out (by simp));have kgb:=yag (hU.heap Bgb.out (by simp));have Q1:Hid (∀ m:KW U,Calls prog 84 #[.agg #[.bool n1,.string s1,.bool false,.string d1]] (Wk U m) fun e w'=>e = .returned (.agg F)∧∃ m,w'=Wk U m):=fun m=>qk m (H1.out _);have Q2:Hid (∀ m:KW U,Calls prog 84 #[.agg #[.bool n2,.string s2,.bool false,.string d2]] (Wk U m) fun e w'=>e = .returned (.agg L)∧∃ m,w'=Wk U m):=fun m=>qk m (H2.out _);simp only [List.map_cons,List.map_nil,unal,isAl,if_true,if_false,Bool.false_eq_true,List.take_succ_cons,List.take_zero]
 repeat (first
  | go_big_quiet_skip
  | (go_big_quiet_want;first
   | (refine ybo _ _ #[(0,.agg F),(1,.agg L)] ((iC I)) rfl (by simp only [List.map_toArray,List.map_cons,List.map_nil];rfl) HBd.out ?_;go_simp;go_big_quiet_on)
   | (go_big_quiet_op;first|go_big_quiet_on|go_big_quiet_call (first
    | (go_at_call 84;with_reducible exact (Q1).out _)|(go_at_call 84;with_reducible exact (Q2).out _)))))
 refine wpQuiet_nil ?_;intro p hp1 hp2 w4 hk_w4 hz;have bgx:=hz (5,32) (by simp);have hgx:=hp1 5 (by simp);simp only [List.map_cons,List.map_nil,pl,List.drop_succ_cons,List.drop_zero];dsimp only at bgx;generalize p 5=gi at *;have Bgi:=jX bgx;have hgi:=hgx;clear hz hp1 hp2 bgx hgx;refine wR gi (iC I) Bgi.out (by exact ybL I) (by rfl) (ybP I) (fun w5 b5 k5=>?_);go_simp;refine fO ?_;have HW5:=jX (HkW.out.tz (hk_w4.trans k5 (by simp;omega)));have Bgi:=jX b5;clear hk_w4 k5 b5 hU kga kgb Q1 Q2 H1 H2 HBd U p;have HLi:=jX ((yao Bgi.out).ld (yaa Bgi.out));rw [show iv I = .agg (iC I) from rfl] at HLi
 go_upto_region 2 with (fail)
 have Q3:Hid (∀ m:KW w5,Calls prog 77 #[.agg (iC I)] (Wk w5 m) fun e w'=>e = .returned (.agg (bC I.f))∧∃ m,w'=Wk w5 m):=fun m=>qk m (H3.out _);have Q4:Hid (∀ m:KW w5,Calls prog 78 #[.agg (iC I)] (Wk w5 m) fun e w'=>e = .returned (.agg (bC I.l))∧∃ m,w'=Wk w5 m):=fun m=>qk m (H4.out _);have Q5:Hid (∀ m:KW w5,Calls prog 76 #[.agg (bC I.f),.agg (bC I.l)] (Wk w5 m) fun e w'=>e = .returned (.int .i64 (-1))∧∃ m,w'=Wk w5 m):=fun m=>qk m (H5.out _);refine yad (by kernel_rfl) (by kernel_rfl) ?_
 repeat (first
  | go_big_quiet_skip
  | (go_big_quiet_want;first
   | (refine yaj _ _ _ (.agg (iC I)) rfl rfl (by rintro _ ⟨m,rfl⟩;exact HLi.out m) ?_;go_simp;go_big_quiet_on)
   | (go_big_quiet_op;first|go_big_quiet_on|go_big_quiet_call (first
    | (go_at_call 77;with_reducible exact (Q3).out _)|(go_at_call 78;with_reducible exact (Q4).out _)|(go_at_call 76;with_reducible exact (Q5).out _)))))
 refine wpQuiet_nil ?_;rintro w6 ⟨⟨_,hk_w6⟩,rfl⟩;have HW6:=jX (HW5.out.tz hk_w6);have Bgi:=jX (hk_w6.heap Bgi.out (by simp));clear hk_w6 Q3 Q4 Q5 HLi H3 H4 H5;go_upto_region 4 with (fail)
 refine wp_region_lit ?_;refine wX (v:=iv I) ⟨gi,0,none⟩ ((yaJ _ gi 0 I (yao Bgi.out))) ?_;go_simp;refine fO ?_;obtain⟨ub,gy,e3,e4,hz1,hkx,hx⟩:=IvR.single I w6;refine yar (v:=.slice (some ⟨w6.heap.size,0,none⟩) 1 1) (by rfl) (yaV 22 1 #[(0,.tmp 17)] #[(0,iv I)] _ rfl (by simp only [List.map_toArray,List.map_cons,List.map_nil];rfl) (ybl _ _)) (fun K hK=>?_);rw [e3,e4];clear e3;go_simp;go_step
 have Hx:=jX hx;have Hk:=jX (HW6.out.tz hkx);clear hx hkx;go_wp2_with fail;go_ret
 exact ⟨_,rfl,Hx.out,Hk.out⟩
end
section
open Classical
def kW (m:Nat):K:=if h:m<256 then kQ ((m:Int):Rat) ((ybM (by omega)).mono (by decide)) else kQ 0 (fit0.mono (by decide))
theorem ydz {m:Nat} (h:m<256):kW m=kQ ((m:Int):Rat) ((ybM (by omega)).mono (by decide)):=by unfold kW;rw [dif_pos h]
theorem kW_sm {m:Nat} (h:m<256):Sm 3 (kW m):=by
 rw [ydz h];exact ⟨(ybM (by omega)).mono (by decide),fit0.mono (by decide)⟩
theorem kW_lt {m n:Nat} (hm:m<256) (hn:n<256):kW m<kW n↔m<n:=by
 rw [ydz hm,ydz hn,kQ_lt,ybN];omega
theorem kW_mv {m k:Nat} {n:Int} (hm:m<256) (hk:k<256) (h:(m:Int)+n=k):mvK (n:Rat) (kW m)=kW k:=by
 have hn:FitQ 24 (n:Rat):=(ybM (by omega)).mono (by decide);refine Subtype.ext ?_;rw [yaS (kW_sm hm) (by decide) hn,ydz hm,ydz hk];unfold mvQ kQ;dsimp only;rw [← h,Rat.intCast_add]
def clZ (a b:Nat):List (Iv K):=[clI (kW a) (kW b)]
theorem ycZ {a b:Nat} (hb:b<256) (h:a<b):Norm (clZ a b):=by
 refine ⟨?_,trivial⟩;exact .inl ((kW_lt (by omega) hb).2 h)
theorem yhx (a b:Nat) (x:Bd K):hasL (clZ a b) x=true↔(⟨kW a,false⟩:Bd K)≤x∧x<⟨kW b,true⟩:=by
 unfold clZ;rw [ybn];constructor
 ·rintro ⟨i,hi,h⟩
  rw [List.mem_singleton] at hi;subst hi;exact h
 exact fun h=>⟨_,List.mem_singleton.2 rfl,h⟩
theorem yip {a b:Nat} (ha:a<256) (hb:b<256) (h:a≤b) (c:Bool):(⟨kW a,c⟩:Bd K)≤⟨kW b,c⟩:=by
 by_cases he:a=b
 ·subst he;exact .inr ⟨rfl,id⟩
 exact .inl ((kW_lt ha hb).2 (by omega))
theorem ygt {a b c d e f:Nat} (h1:a≤e) (h2:c≤e) (h3:e=a∨e=c) (h4:f≤b) (h5:f≤d) (h6:f=b∨f=d) (h7:e<f) (hb:b<256) (hd:d<256):combK 2 (clZ a b) (clZ c d)=clZ e f:=by
 refine yey (ycZ (by omega) h7) fun x=>?_;rw [dec2,Bool.eq_iff_iff,Bool.and_eq_true,yhx,yhx,yhx];have g1:=yip (a:=a) (b:=e) (by omega) (by omega) h1 false;have g2:=yip (a:=c) (b:=e) (by omega) (by omega) h2 false;have g3:=yip (a:=f) (b:=b) (by omega) (by omega) h4 true;have g4:=yip (a:=f) (b:=d) (by omega) (by omega) h5 true;constructor
 ·rintro ⟨k1,k2⟩
  exact ⟨⟨by grind,by grind⟩,⟨by grind,by grind⟩⟩
 rintro ⟨⟨k1,k2⟩,⟨k3,k4⟩⟩;refine ⟨?_,?_⟩
 ·rcases h3 with rfl|rfl
  ·exact k1
  exact k3
 rcases h6 with rfl|rfl
 ·exact k2
 exact k4
theorem clZ_ero {a b c:Nat} {n:Int} (hb:b<256) (h:(b:Int)-n=c) (hc:c<256) (hac:a<c) (hn:n.natAbs≤1000):eroK (n:Rat) (clZ a b)=clZ a c:=by
 have e:eroL (n:Rat) (clZ a b)=clZ a c:=by
  unfold eroL clZ
  have e1:eroI (n:Rat) (clI (kW a) (kW b))=clI (kW a) (kW c):=by
   unfold eroI clI mvB;dsimp only;have:=kW_mv (m:=b) (k:=c) (n:=-n) hb hc (by omega);rw [Rat.intCast_neg] at this;rw [this]
  rw [List.map_cons,List.map_nil,e1,List.filter_cons,if_pos,List.filter_nil];exact yic.2 (.inl ((kW_lt (by omega) hc).2 hac))
 unfold eroK;rw [e];exact yec (ycZ hc hac)
theorem clZ_swp {a b c d:Nat} {m n:Int} (ha:a<256) (hb:b<256) (h1:(a:Int)+m=c) (h2:(b:Int)+n=d) (hc:c<256) (hd:d<256) (hcd:c<d):swpK (m:Rat) (n:Rat) (clZ a b)=clZ c d:=by
 have e:swpL (m:Rat) (n:Rat) (clZ a b)=clZ c d:=by
  unfold swpL clZ;rw [List.map_cons,List.map_nil];unfold swpI clI mvB;dsimp only;rw [kW_mv ha hc h1,kW_mv hb hd h2]
 unfold swpK;rw [e];exact yec (ycZ hd hcd)
theorem clZ_mv {a b c d:Nat} {m:Int} (ha:a<256) (hb:b<256) (h1:(a:Int)+m=c) (h2:(b:Int)+m=d) (hc:c<256) (hd:d<256):(clZ a b).map (mvI (m:Rat))=clZ c d:=by
 unfold clZ;rw [List.map_cons,List.map_nil];unfold mvI clI;dsimp only;rw [kW_mv ha hc h1,kW_mv hb hd h2]
noncomputable def exS (b:Nat):List St:=[⟨clZ 0 4,((1:Int):Rat),0,0⟩,⟨clZ 3 10,0,0,((b:Int):Rat)⟩]
theorem ygn (b:Nat):rchS (sAt (exS b)) 0=clZ 0 3:=clZ_ero (n:=1) (by decide) (by decide) (by decide) (by decide) (by decide)
theorem yil {b:Nat} (hb:b=1∨b=2):rchS (sAt (exS b)) 1=clZ 3 (4+b):=by
 have e1:eroK ((0:Int):Rat) (clZ 3 10)=clZ 3 10:=clZ_ero (n:=0) (by decide) (by decide) (by decide) (by decide) (by decide);show combK 2 (eroK ((0:Int):Rat) (clZ 3 10)) (swpK ((0:Int):Rat) ((b:Int):Rat) ((rchS (sAt (exS b)) 0).map (mvI ((1:Int):Rat))))=_
 rw [e1,ygn,clZ_mv (c:=1) (d:=4) (m:=1) (by decide) (by decide) (by decide) (by decide) (by decide) (by decide),clZ_swp (c:=1) (d:=4+b) (m:=0) (n:=(b:Int)) (by decide) (by decide) (by decide) (by omega) (by decide) (by omega) (by omega)];exact ygt (by decide) (by decide) (.inl rfl) (by omega) (by omega) (.inr rfl) (by omega) (by decide) (by omega)
theorem exS_liv1:livAt (sAt (exS 1)) 2 1=clZ 3 5:=yil (.inl rfl)
theorem exS_liv0:livAt (sAt (exS 1)) 2 0=clZ 1 3:=by
 show combK 2 (rchS (sAt (exS 1)) 0) (swpK (-(((1:Int):Rat)+((1:Int):Rat))) (-((0:Rat)+((1:Int):Rat))) (livS (sAt (exS 1)) 2 0))=_
 have e0:livS (sAt (exS 1)) 2 0=clZ 3 5:=exS_liv1;have e1 : -(((1:Int):Rat)+((1:Int):Rat))=((-2:Int):Rat):=by rw [← Rat.intCast_add,← Rat.intCast_neg];rfl
 have e2 : -((0:Rat)+((1:Int):Rat))=((-1:Int):Rat):=by rw [Rat.zero_add,← Rat.intCast_neg]
 rw [ygn,e0,e1,e2,clZ_swp (c:=1) (d:=4) (m:=-2) (n:=-1) (by decide) (by decide) (by decide) (by decide) (by decide) (by decide) (by decide)];exact ygt (by decide) (by decide) (.inr rfl) (by decide) (by decide) (.inl rfl) (by decide) (by decide) (by decide)
theorem yiy {b:Nat} (hb:b=1∨b=2):Good (exS b):=by
 have hp:∀ a c:Nat,a<256→c<256→∃ S:List K,S.length≤16∧(∀ x∈S,Sm 28 x)∧PtsIn S (clZ a c):=fun a c ha hc=>by
  refine ⟨[kW a,kW c],by simp,fun x hx=>?_,fun i hi=>?_⟩
  ·simp only [List.mem_cons,List.not_mem_nil,or_false] at hx
   rcases hx with rfl|rfl
   ·exact (kW_sm ha).mono (by decide)
   exact (kW_sm hc).mono (by decide)
  unfold clZ at hi;rw [List.mem_singleton] at hi;subst hi;exact ⟨by simp [clI],by simp [clI]⟩
 have f1:FitQ 8 ((1:Int):Rat):=(ybM (by decide)).mono (by decide);have fb:FitQ 8 ((b:Int):Rat):=(ybM (by omega)).mono (by decide);refine ⟨fun s hs=>?_,by simp [exS],fun s hs=>?_,fun _=>⟨rfl,rfl⟩⟩
 ·simp only [exS,List.mem_cons,List.not_mem_nil,or_false] at hs
  rcases hs with rfl|rfl
  ·exact ⟨ycZ (by decide) (by decide),hp 0 4 (by decide) (by decide),f1,fitq0,fitq0⟩
  exact ⟨ycZ (by decide) (by decide),hp 3 10 (by decide) (by decide),fitq0,fitq0,fb⟩
 simp only [exS,List.mem_cons,List.not_mem_nil,or_false] at hs
 have h0:(0:Rat)≤((b:Int):Rat):=by
  have:=(yaB (a:=0) (b:=(b:Int))).2 (by omega)
  simpa using this
 rcases hs with rfl|rfl
 ·exact ⟨show (0:Rat)≤((1:Int):Rat) by decide,Rat.le_refl⟩
 exact ⟨Rat.le_refl,h0⟩
end
section
open Classical
def CPost (w:World) (l:List (Iv K)) (e:Ending) (w':World):Prop:=∃ a c,e = .returned (.slice a l.length c)∧Ls w' [(.slice a l.length c,l)]∧Keep [] w w'
theorem ycR (a b:Nat) (hb:b<256) (h:a<b) (w:World):Calls prog 101 #[.int .i64 (a:Int),.int .i64 (b:Int)] w (CPost w (clZ a b)):=by
 have fa:FitQ 100000 ((a:Int):Rat):=(ybM (by omega)).mono (by decide);have fb:FitQ 100000 ((b:Int):Rat):=(ybM (by omega)).mono (by decide);have H1:=jX (QFromInt_c (a:Int) (by omega) (by omega));have H2:=jX (QFromInt_c (b:Int) (by omega) (by omega));have e1:clI (kQ ((a:Int):Rat) fa) (kQ ((b:Int):Rat) fb)=clI (kW a) (kW b):=by rw [ydz (by omega),ydz hb]
 have H3:=jX (pclosed_c ((a:Int):Rat) ((b:Int):Rat) fa fb (by rw [← ydz (by omega),← ydz hb];exact (kW_lt (by omega) hb).2 h));rw [e1] at H3;have HN:=jX (ycZ hb h);have HC:clZ a b=[clI (kW a) (kW b)]:=rfl;rw [← HC] at H3;have HL:(clZ a b).length=1:=rfl;have HL:=jX HL;clear fa fb e1 HC h hb;generalize clZ a b=l at *;generalize rv ((a:Int):Rat)=p at *;generalize rv ((b:Int):Rat)=q at *;go_enter func101,ntmps101
 go_wp2_with fail;refine (H1.out _).mono ?_;rintro e w1 ⟨rfl,k1⟩;dsimp only;go_wp2_with fail;refine (H2.out _).mono ?_;rintro e w2 ⟨rfl,k2⟩;dsimp only;go_wp2_with fail;refine (H3.out _).mono ?_;rintro e w3 ⟨v,rfl,hv,k3⟩;dsimp only;obtain⟨x,c,rfl,_⟩:=hv.form;go_wp2_with fail;go_ret
 exact ⟨x,c,rfl,(Ls.nil _).cons hv HN.out (by have:=HL.out;omega),(k1.tz k2).tz k3⟩
end
section
open Classical
theorem st_built1 (a:Option Addr) (n c:Nat) (n1 n3:Bool) (s1 d1:ByteArray):prog.built 65 [(0,.slice a n c),(1,.agg #[.bool n1,.string s1,.bool n3,.string d1])]=some #[.slice a n c,.bool n1,.string s1,.bool n3,.string d1,.bool false,.string ⟨#[]⟩,.bool false,.string ⟨#[]⟩,.bool false,.string ⟨#[]⟩,.bool false,.string ⟨#[]⟩]:=by kernel_rfl
theorem st_built3 (a:Option Addr) (n c:Nat) (n1 n3:Bool) (s1 d1:ByteArray):prog.built 65 [(0,.slice a n c),(3,.agg #[.bool n1,.string s1,.bool n3,.string d1])]=some #[.slice a n c,.bool false,.string ⟨#[]⟩,.bool false,.string ⟨#[]⟩,.bool false,.string ⟨#[]⟩,.bool false,.string ⟨#[]⟩,.bool n1,.string s1,.bool n3,.string d1]:=by kernel_rfl
theorem z_cells:sgB (0:Rat).num=false∧mgS (0:Rat).num=⟨#[]⟩∧dnS (0:Rat).den=⟨#[]⟩:=⟨by decide,yba.2 rfl,by unfold dnS;rfl⟩
theorem st_builtG (a:Option Addr) (c:Nat) (d:List (Iv K)) (q:Rat):prog.built 65 [(0,.slice a d.length c),(1,.agg (rC q))]=some (StV.C ⟨a,c,⟨d,q,0,0⟩⟩):=by
 rw [StV.eC,z_cells.1,z_cells.2.1,z_cells.2.2];exact st_built1 _ _ _ _ _ _ _
theorem st_builtB (a:Option Addr) (c:Nat) (d:List (Iv K)) (q:Rat):prog.built 65 [(0,.slice a d.length c),(3,.agg (rC q))]=some (StV.C ⟨a,c,⟨d,0,0,q⟩⟩):=by
 rw [StV.eC,z_cells.1,z_cells.2.1,z_cells.2.2];exact st_built3 _ _ _ _ _ _ _
theorem fill_s2 (a:Option Addr) (n c:Nat) (n1 n2 n3:Bool) (s1 d1 s2 d2 s3 d3:ByteArray) (a':Option Addr) (n' c':Nat) (m1 m2 m3:Bool) (t1 e1 t2 e2 t3 e3:ByteArray):Instr.fill (fun i=>some (i*13,13)) ((Array.range (2*13)).map ((#[.slice none 0 0,.bool false,.string ⟨#[]⟩,.bool false,.string ⟨#[]⟩,.bool false,.string ⟨#[]⟩,.bool false,.string ⟨#[]⟩,.bool false,.string ⟨#[]⟩,.bool false,.string ⟨#[]⟩]:Array Value)[· % (#[.slice none 0 0,.bool false,.string ⟨#[]⟩,.bool false,.string ⟨#[]⟩,.bool false,.string ⟨#[]⟩,.bool false,.string ⟨#[]⟩,.bool false,.string ⟨#[]⟩,.bool false,.string ⟨#[]⟩]:Array Value).size]!))
  #[(0, Value.agg #[.slice a n c, .bool n1, .string s1, .bool false, .string d1, .bool n2, .string s2, .bool false, .string d2, .bool n3, .string s3, .bool false, .string d3]), (1, Value.agg #[.slice a' n' c', .bool m1, .string t1, .bool false, .string e1, .bool m2, .string t2, .bool false, .string e2, .bool m3, .string t3, .bool false, .string e3])].toList = some #[.slice a n c, .bool n1, .string s1, .bool false, .string d1, .bool n2, .string s2, .bool false, .string d2, .bool n3, .string s3, .bool false, .string d3, .slice a' n' c', .bool m1, .string t1, .bool false, .string e1, .bool m2, .string t2, .bool false, .string e2, .bool m3, .string t3, .bool false, .string e3] := by kernel_rfl
theorem buildS2 (x y:StV) (w:World):(Instr.buildSlice 62 2 #[(0,.agg x.C),(1,.agg y.C)]).run prog w = .ok (.slice (some ⟨w.heap.size,0,none⟩) 2 2) (w.alloc (.cells (x.cells++y.cells).toArray 65)):=by
 obtain⟨i,z,hi,hz,hs,hb,hzc⟩:=st_info;refine run_buildSlice (P:=prog) w 62 65 2 _ _ i z underlying62 hi hz (by rw [hs];decide) (by rw [hs];decide) ?_;rw [hs,hzc];exact fill_s2 _ _ _ _ _ _ _ _ _ _ _ _ _ _ _ _ _ _ _ _ _ _ _ _
theorem st2_row {w:World} {g:Nat} {x y:StV} {t:TypeId} (h:w.heap[g]? = some (.cells (x.cells++y.cells).toArray t)):RowE StV.cells w (.slice (some ⟨g,0,none⟩) 2 2) [x,y] :=
 .inr ⟨g,0,2,rfl,Nat.le_refl _,yaa h,fun i v hv=>by
  rw [Nat.zero_add,yab h];refine (List.getElem?_toArray ..).trans ?_
  simpa using hv⟩
theorem put26 (x:StV) (a:Option Addr) (c:Nat) (d:List (Iv K)) (g p q z:Rat):ybv (x.cells++StV.cells ⟨a,c,⟨d,g,p,q⟩⟩).toArray 22 (rC z).toList=(x.cells++StV.cells ⟨a,c,⟨d,g,p,z⟩⟩).toArray:=rfl
noncomputable def exV (a:Option Addr) (b:Nat) (c:Option Addr) (d n:Nat):List StV:=[⟨a,b,⟨clZ 0 4,((1:Int):Rat),0,0⟩⟩,⟨c,d,⟨clZ 3 10,0,0,((n:Int):Rat)⟩⟩]
theorem exV_st (a:Option Addr) (b:Nat) (c:Option Addr) (d n:Nat):stS (exV a b c d n)=exS n:=rfl
theorem IvR.laterS {u u':World} {v:Value} {l:List (Iv K)} {g:Nat} {cs:Array Value} {t:TypeId} (h:IvR u v l) (hb:u.heap[g]? = some (.cells cs t)) (hs:cs.size≤33) {a:Option Addr} {n c:Nat} (h13:cs[13]? = some (.slice a n c)) (hk:Keep [g] u u'):IvR u' v l:=by
 rcases h with h|⟨g',o,c',rfl,hc,hg,hx⟩
 ·exact .inl h
 refine .inr ⟨g',o,c',rfl,hc,Nat.lt_of_lt_of_le hg hk.size,fun i v hv=>?_⟩;by_cases hgg:g'=g
 ·subst hgg
  exfalso;cases l with
  | nil=>simp at hv
  | cons x r =>
   have hat:∀ j y,(icells x)[j]? = some y→cs[o+j]? = some y:=fun j y hj=>by
    have:=hx j y (by rw [List.flatMap_cons,List.getElem?_append_left (List.getElem?_eq_some_iff.1 hj).1];exact hj);rwa [yab hb] at this
   by_cases ho:o≤13
   ·have hl:13-o<(icells x).length:=by rw [yco];omega
    have h1:=hat (13-o) _ (List.getElem?_eq_getElem hl);rw [show o+(13-o)=13 by omega,h13] at h1
    injection h1 with h1;have hm:=List.getElem_mem hl;rw [← h1] at hm;simp [icells,kcells,rcells] at hm
   have:=hat 19 (.bool (!x.l.beh)) rfl;have:=(Array.getElem?_eq_some_iff.1 this).1;omega
 rw [World.cell?_of_block (hk.block g' hg (by simp;exact hgg))];exact hx i v hv
theorem Ls.laterS {w w':World} {L:List (Value × List (Iv K))} (h:Ls w L) {g:Nat} {cs:Array Value} {t:TypeId} (hb:w.heap[g]? = some (.cells cs t)) (hs:cs.size≤33) {a:Option Addr} {n c:Nat} (h13:cs[13]? = some (.slice a n c)) (hk:Keep [g] w w'):Ls w' L :=
 fun p hp=>⟨(h p hp).1.laterS hb hs h13 hk,(h p hp).2⟩
def Two (w:World) (x y:List (Iv K)) (e:Ending) (w':World):Prop :=
 ∃ g a c a' c',e = .returned (.tuple #[.slice (some ⟨g,0,none⟩) 2 2,.int .i64 0])∧Below w.heap.size w w'∧w.heap.size≤g∧g<w'.heap.size∧w'.cell? ⟨g,0,none⟩=some (.slice a x.length c)∧w'.cell? ⟨g,1,none⟩=some (.slice a' y.length c')∧Ls w' [(.slice a x.length c,x)]∧Ls w' [(.slice a' y.length c',y)]
theorem two_of {w:World} {F:Nat→List (Iv K)} {f:Nat} {args:Array Value} (h:Calls prog f args w (LivP w 2 F)):Calls prog f args w (Two w (F 0) (F 1)) :=
 h.mono fun e w' ⟨g,vs,he,hb,hg,ho,hn,hF⟩=>by
  obtain⟨a,c,h1,h2⟩:=ho.cell 0 (by omega);obtain⟨a',c',h3,h4⟩:=ho.cell 1 (by omega);rw [hF 0 (by omega)] at h1 h2;rw [hF 1 (by omega)] at h3 h4;exact ⟨g,a,c,a',c',he,hb,hg,yaa ho.blk,h1,h3,h2,h4⟩
theorem Ls.peq_t {w:World} {v u:Value} {l:List (Iv K)} (h:Ls w [(v,l)]) (k:Ls w [(u,l)]):Calls prog 20 #[v,u] w (BPost w true):=by
 have:=(h.one k).peq (List.mem_cons_self ..) (List.mem_cons_of_mem _ (List.mem_cons_self ..));rwa [decide_eq_true (rfl:l=l)] at this
theorem CPost.lp {w:World} {l:List (Iv K)} {f:Nat} {args:Array Value} (h:Calls prog f args w (CPost w l)):Calls prog f args w (LPost w [] l):=h.mono fun e w' ⟨a,c,h1,h2,h3⟩=>⟨a,c,h1,h3.bz,h2⟩
theorem known51_c (w:World):Calls prog 36 #[] w fun e w'=>e = .returned (.bool true)∧Below w.heap.size w w':=by
 have C1:=jX (fun u=>ycR 0 4 (by decide) (by decide) u);have C2:=jX (fun u=>ycR 3 10 (by decide) (by decide) u);have D1:=jX (fun u=>CPost.lp (ycR 0 3 (by decide) (by decide) u));have D2:=jX (fun u=>CPost.lp (ycR 3 6 (by decide) (by decide) u));have D3:=jX (fun u=>CPost.lp (ycR 1 3 (by decide) (by decide) u));have D4:=jX (fun u=>CPost.lp (ycR 3 5 (by decide) (by decide) u));have H1:=jX (QFromInt_c 1 (by decide) (by decide));have H2:=jX (QFromInt_c 2 (by decide) (by decide));rw [yam] at H1 H2;have R1:=jX (fun u a b c d sv (h:StR u sv (exV a b c d 2))=>two_of (ygX (exV a b c d 2) (yiy (.inr rfl)) (by show 0<2;decide) (by show 2≤4;decide) u sv h))
 have R2:=jX (fun u a b c d sv (h:StR u sv (exV a b c d 1))=>two_of (live_p (exV a b c d 1) (yiy (.inl rfl)) (by show 0<2;decide) (by show 2≤4;decide) u sv h))
 simp only [exV_st] at R1 R2;rw [ygn,yil (.inr rfl)] at R1;have e1:livAt (sAt (exS 1)) (exV none 0 none 0 1).length 1=clZ 3 5:=exS_liv1;have e0:livAt (sAt (exS 1)) (exV none 0 none 0 1).length 0=clZ 1 3:=exS_liv0;have eL:∀ a b c d,(exV a b c d 1).length=(exV none 0 none 0 1).length:=fun _ _ _ _=>rfl;simp only [eL] at R2;rw [e0,e1] at R2;clear e0 e1 eL;go_enter func36,ntmps36
 go_upto_region 1 with (fail)
 refine wp_region_lit ?_;refine wpList_plain (by rfl) (fun K hK=>?_);refine yaf 101 #[.int .i64 0,.int .i64 4] (by go_simp) ?_;refine (C1.out _).mono ?_;rintro e9 w1 ⟨x1,c1,rfl,hl1,hk1⟩;refine ⟨_,rfl,?_⟩;go_simp;go_step
 refine wpList_plain (by rfl) (fun K hK=>?_);refine yaf 102 #[.int .i64 1] (by go_simp) ?_;refine (H1.out _).mono ?_;rintro e9 w2 ⟨rfl,hk2⟩;refine ⟨_,rfl,?_⟩;go_simp;go_step
 refine wU (v:=.agg (StV.C ⟨x1,c1,⟨clZ 0 4,((1:Int):Rat),0,0⟩⟩)) (yaC _ #[(0,.tmp 6),(1,.tmp 7)] #[(0,.slice x1 (clZ 0 4).length c1),(1,.agg (rC ((1:Int):Rat)))] _ rfl (by simp only [List.map_toArray,List.map_cons,List.map_nil];rfl) (st_builtG x1 c1 _ _)) ?_;go_simp;refine fO ?_;have hl1:=hl1.grow hk2.bz;refine wpList_plain (by rfl) (fun K hK=>?_);refine yaf 101 #[.int .i64 3,.int .i64 10] (by go_simp) ?_;refine (C2.out _).mono ?_;rintro e9 w3 ⟨x2,c2,rfl,hl2,hk3⟩;refine ⟨_,rfl,?_⟩;go_simp;go_step
 refine wpList_plain (by rfl) (fun K hK=>?_);refine yaf 102 #[.int .i64 2] (by go_simp) ?_;refine (H2.out _).mono ?_;rintro e9 w4 ⟨rfl,hk4⟩;refine ⟨_,rfl,?_⟩;go_simp;go_step
 have hl1:=(hl1.grow hk3.bz).grow hk4.bz;have hl2:=hl2.grow hk4.bz;refine wU (v:=.agg (StV.C ⟨x2,c2,⟨clZ 3 10,0,0,((2:Int):Rat)⟩⟩)) (yaC _ #[(0,.tmp 9),(3,.tmp 10)] #[(0,.slice x2 (clZ 3 10).length c2),(3,.agg (rC ((2:Int):Rat)))] _ rfl (by simp only [List.map_toArray,List.map_cons,List.map_nil];rfl) (st_builtB x2 c2 _ _)) ?_;go_simp;refine yar (v:=.slice (some ⟨w4.heap.size,0,none⟩) 2 2) (w':=_) (by rfl) (yaV 62 2 #[(0,.tmp 8),(1,.tmp 11)] #[(0,.agg (StV.C ⟨x1,c1,⟨clZ 0 4,((1:Int):Rat),0,0⟩⟩)),(1,.agg (StV.C ⟨x2,c2,⟨clZ 3 10,0,0,((2:Int):Rat)⟩⟩))] _ rfl (by simp only [List.map_toArray,List.map_cons,List.map_nil];rfl) (buildS2 _ _ _)) (fun K hK=>?_);obtain⟨w5,gs,e1,e2,bgs,hgs,_,hk5⟩:=al1 w4 (.cells (StV.cells ⟨x1,c1,⟨clZ 0 4,((1:Int):Rat),0,0⟩⟩++StV.cells ⟨x2,c2,⟨clZ 3 10,0,0,((2:Int):Rat)⟩⟩).toArray 65);have hgw:w.heap.size≤gs:=by rw [← e2];exact (((hk1.tz hk2).tz hk3).tz hk4).size
 rw [← e1,e2];clear e1 e2;go_simp;go_step
 have HB:=jX ((((hk1.tz hk2).tz hk3).tz hk4).tz hk5).bz;have HL1:=jX (hl1.grow hk5.bz);have HL2:=jX (hl2.grow hk5.bz);have Bgs:=jX bgs;have hR:StR w5 (.slice (some ⟨gs,0,none⟩) 2 2) (exV x1 c1 x2 c2 2):=⟨st2_row bgs,HL1.out.one HL2.out⟩;have HR:=jX (R1.out w5 x1 c1 x2 c2 _ hR);clear hl1 hl2 hk1 hk2 hk3 hk4 hk5 bgs hR R1 C1 C2 H2;go_wp2_with fail;refine HR.out.mono ?_;rintro e w6 ⟨g1,a1,d1,a2,d2,rfl,hb1,hgl,hg1,q0,q1,hr0,hr1⟩;dsimp only;have HB:=jX (HB.out.trans (Below.mono hb1 HB.out.size));have HL1:=jX (HL1.out.grow hb1);have HL2:=jX (HL2.out.grow hb1);have Bgs0:=Bgs;have Bgs:=jX ((hb1.block gs (yaa Bgs.out)).trans Bgs.out);have HQ0:=jX q0;have HQ1:=jX q1;have HR0:=jX hr0;have HR1:=jX hr1;have hne:g1≠gs:=by have:=yaa Bgs0.out;omega
 clear hb1 HR q0 q1 hr0 hr1 hgl Bgs0;go_upto_region 3 with (fail)
 refine wp_region_lit ?_;refine wV ?_;go_simp;refine wpList_plain (by rfl) (fun K hK=>?_);refine yaf 102 #[.int .i64 1] (by go_simp) ?_;refine (H1.out _).mono ?_;rintro e9 w7 ⟨rfl,hk⟩;refine ⟨_,rfl,?_⟩;go_simp;go_step
 have Bgs:=jX (hk.heap Bgs.out (by simp));refine wV ?_;go_simp;refine wV ?_;go_simp;refine yaN (by rfl) _ _ _ rfl gs 22 (rC ((1:Int):Rat)) rfl rfl (ybb Bgs.out _ _ (by exact (by decide:22+4≤26))) (by exact q_size) (yaP _) (fun K hK=>?_);obtain⟨bgs,kgs⟩:=yaw (rC ((1:Int):Rat)).toList 22 _ w7 Bgs.out;rw [put26] at bgs;generalize World.setCells w7 gs 22 (rC ((1:Int):Rat)).toList=w8 at *;go_simp;go_step
 have hkb:=hk.bz;have HL1:=jX ((HL1.out.grow hkb).laterS Bgs.out (show 26≤33 by decide) rfl kgs)
 have HL2:=jX ((HL2.out.grow hkb).laterS Bgs.out (show 26≤33 by decide) rfl kgs)
 have HR0:=jX ((HR0.out.grow hkb).laterS Bgs.out (show 26≤33 by decide) rfl kgs)
 have HR1:=jX ((HR1.out.grow hkb).laterS Bgs.out (show 26≤33 by decide) rfl kgs)
 have hb8:w8.heap[g1]? = w6.heap[g1]?:=(kgs.block g1 (Nat.lt_of_lt_of_le hg1 hk.size) (by simp;exact hne)).trans (hk.block g1 hg1 (by simp));have HQ0:=jX ((World.cell?_of_block hb8).trans HQ0.out);have HQ1:=jX ((World.cell?_of_block hb8).trans HQ1.out);have hg1:=Nat.lt_of_lt_of_le (Nat.lt_of_lt_of_le hg1 hk.size) kgs.size;have HB:=jX (HB.out.trans (Below.mono hkb HB.out.size));have HB:=jX (HB.out.trans (kgs.below (by simp;exact hgw) HB.out.size));have HR:=jX (R2.out w8 x1 c1 x2 c2 _ ⟨st2_row bgs,HL1.out.one HL2.out⟩);clear hk kgs hkb hb8 bgs Bgs HL1 HL2 R2 H1;go_upto_region 4 with (fail)
 go_wp2_with fail;refine HR.out.mono ?_;rintro e w9 ⟨g2,a3,d3,a4,d4,rfl,hb1,_,hg2,q2,q3,hr2,hr3⟩;dsimp only;have hg2:=jX hg2;have HB:=jX (HB.out.trans (Below.mono hb1 HB.out.size));have HR0:=jX (HR0.out.grow hb1);have HR1:=jX (HR1.out.grow hb1);have HQ0:=jX ((World.cell?_of_block (hb1.block g1 hg1)).trans HQ0.out);have HQ1:=jX ((World.cell?_of_block (hb1.block g1 hg1)).trans HQ1.out);have hg1:=jX (Nat.lt_of_lt_of_le hg1 hb1.size);have HR2:=jX hr2;have HR3:=jX hr3;have HQ2:=jX q2;have HQ3:=jX q3;clear hb1 HR hr2 hr3 q2 q3 hne hgw;generalize clZ 0 4=l1 at *;generalize clZ 3 10=l2 at *;generalize clZ 0 3=r0 at *;generalize clZ 3 6=r1 at *;generalize clZ 1 3=r2 at *;generalize clZ 3 5=r3 at *;go_upto_region 5 with (fail)
 refine yae (S:=fun u=>Below w9.heap.size w9 u) 44 (by kernel_rfl) (by kernel_rfl) (fun _ _ d _ _ h=>by cases d<;>exact h) ?_;have hS0:=(Keep.drew [] w9).bz;generalize World.drew w9=u0 at *;refine tV 0 hS0 ?_;go_simp;refine tV 1 hS0 ?_;go_simp;refine tV 2 hS0 ?_;go_simp;refine tV 3 hS0 ?_;go_simp;refine tV 4 hS0 ?_;go_simp;refine tV 5 hS0 ?_;go_simp;refine tV 6 hS0 ?_;go_simp;refine tV 7 hS0 ?_;go_simp;refine tV 8 hS0 ?_;go_simp;refine tV 9 hS0 ?_;go_simp;refine' jG (v:=_) 10 hS0 (fun w hw=>?ha10) (fun K hK=>?ka10)
 case ha10=>(have q:=(World.cell?_of_block (hw.block g1 hg1.out)).trans HQ0.out;go_simp;try rfl)
 go_simp;go_step
 refine jP 11 (fun K hK=>?_);refine yaf 101 #[.int .i64 0,.int .i64 3] (by go_simp) ?_;refine (D1.out _).mono ?_;rintro e u1 ⟨b1,o1,rfl,hb,h1⟩;have hS0:=hS0.trans (Below.mono hb hS0.size);refine ⟨_,rfl,?_⟩;go_simp;refine hK _ _ hS0 ?_;clear hK K;refine uR 12 20 #[.slice a1 r0.length d1,.slice b1 r0.length o1] hS0 (((HR0.out.grow hS0).peq_t h1)) (fun v1 hS0 hb=>?_);go_simp;refine tV 13 hS0 ?_;go_simp;refine tV 14 hS0 ?_;go_simp;refine tV 15 hS0 ?_;go_simp;refine tV 16 hS0 ?_;go_simp;refine' jG (v:=_) 17 hS0 (fun w hw=>?ha17) (fun K hK=>?ka17)
 case ha17=>(have q:=(World.cell?_of_block (hw.block g1 hg1.out)).trans HQ1.out;go_simp;try rfl)
 go_simp;go_step
 refine jP 18 (fun K hK=>?_);refine yaf 101 #[.int .i64 3,.int .i64 6] (by go_simp) ?_;refine (D2.out _).mono ?_;rintro e u2 ⟨b2,o2,rfl,hb,h2⟩;have hS0:=hS0.trans (Below.mono hb hS0.size);refine ⟨_,rfl,?_⟩;go_simp;refine hK _ _ hS0 ?_;clear hK K;refine uR 19 20 #[.slice a2 r1.length d2,.slice b2 r1.length o2] hS0 (((HR1.out.grow hS0).peq_t h2)) (fun v2 hS0 hb=>?_);go_simp;refine tV 20 hS0 ?_;go_simp;refine tV 21 hS0 ?_;go_simp;refine tV 22 hS0 ?_;go_simp;refine tV 23 hS0 ?_;go_simp;refine tV 24 hS0 ?_;go_simp;refine tV 25 hS0 ?_;go_simp;refine tV 26 hS0 ?_;go_simp;refine tV 27 hS0 ?_;go_simp;refine tV 28 hS0 ?_;go_simp;refine tV 29 hS0 ?_;go_simp;refine tV 30 hS0 ?_;go_simp;refine tV 31 hS0 ?_;go_simp;refine tV 32 hS0 ?_;go_simp;refine' jG (v:=_) 33 hS0 (fun w hw=>?ha33) (fun K hK=>?ka33)
 case ha33=>(have q:=(World.cell?_of_block (hw.block g2 hg2.out)).trans HQ2.out;go_simp;try rfl)
 go_simp;go_step
 refine jP 34 (fun K hK=>?_);refine yaf 101 #[.int .i64 1,.int .i64 3] (by go_simp) ?_;refine (D3.out _).mono ?_;rintro e u3 ⟨b3,o3,rfl,hb,h3⟩;have hS0:=hS0.trans (Below.mono hb hS0.size);refine ⟨_,rfl,?_⟩;go_simp;refine hK _ _ hS0 ?_;clear hK K;refine uR 35 20 #[.slice a3 r2.length d3,.slice b3 r2.length o3] hS0 (((HR2.out.grow hS0).peq_t h3)) (fun v3 hS0 hb=>?_);go_simp;refine tV 36 hS0 ?_;go_simp;refine tV 37 hS0 ?_;go_simp;refine tV 38 hS0 ?_;go_simp;refine tV 39 hS0 ?_;go_simp;refine' jG (v:=_) 40 hS0 (fun w hw=>?ha40) (fun K hK=>?ka40)
 case ha40=>(have q:=(World.cell?_of_block (hw.block g2 hg2.out)).trans HQ3.out;go_simp;try rfl)
 go_simp;go_step
 refine jP 41 (fun K hK=>?_);refine yaf 101 #[.int .i64 3,.int .i64 5] (by go_simp) ?_;refine (D4.out _).mono ?_;rintro e u4 ⟨b4,o4,rfl,hb,h4⟩;have hS0:=hS0.trans (Below.mono hb hS0.size);refine ⟨_,rfl,?_⟩;go_simp;refine hK _ _ hS0 ?_;clear hK K;refine uR 42 20 #[.slice a4 r3.length d4,.slice b4 r3.length o4] hS0 (((HR3.out.grow hS0).peq_t h4)) (fun v4 hS0 hb=>?_);go_simp;refine tV 43 hS0 ?_;go_simp;refine ⟨by kernel_rfl,?_⟩;simp only [List.drop_succ_cons,List.drop_zero];have HB:=jX (HB.out.trans (Below.mono hS0 HB.out.size));go_wp2_with fail;go_ret
 exact ⟨rfl,HB.out⟩
end
end Go.Proofs.YtpgffjjpiafhpaaGreatDoor
