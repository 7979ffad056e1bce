/- Parts of a proof: Mj Yc Qd. -/
import Derived.Test.YtejegogbhpmgfaaGreatDoorG38
import Derived.Test.YtejegogbhpmgfaaGreatDoorG16
import Derived.Test.YtejegogbhpmgfaaGreatDoorG13
set_option linter.unusedVariables false
set_option linter.unusedSimpArgs false
set_option maxRecDepth 100000
set_option maxHeartbeats 8000000
namespace Go.Proofs.YtejegogbhpmgfaaGreatDoor
open Go.RowKit Tryz
section
open Classical
section
variable {S:List K} {w0 w w' W:World} {L M:List (Value × List (Iv K))} {D T E U P:List (Iv K)} {da ta ea ua pa:Option Addr} {dc tc ec uc pc:Nat}
theorem MP.back (h:MP S w0 w L) (hk:Keep [] w W) (hm:MP S W w' M) (hs:∀ p∈L,p∈M):MP S w0 w' L :=
 ⟨⟨h.keep.tz (hk.tz hm.keep),fun p hp=>hm.mi.2 p (hs p hp)⟩,h.per,h.few⟩
def BB2Post (S:List K) (w0:World) (L:List (Value × List (Iv K))) (r q:Bool) (e:Ending) (w':World):Prop:=e = .returned (.tuple #[.bool r,.bool q])∧MP S w0 w' L
theorem MP.mat (h:MP S w0 w L) (hD:(.slice da D.length dc,D)∈L) (hT:(.slice ta T.length tc,T)∈L) (t:K) :
  Calls prog 17 #[.agg #[.slice da D.length dc,.slice ta T.length tc],kv t] w (BB2Post S w0 L (holds T t) (holds D t)):=by
 have H0:=jX h;have hD:=jX hD;have hT:=jX hT;clear h;generalize hr1:holds T t=r1;generalize hr2:holds D t=r2;have Hr1:=jX hr1;have Hr2:=jX hr2;clear hr1 hr2;show Calls prog _ #[_,.agg (kC t)] w _
 go_enter func17,ntmps17
 go_upto_region 1 with (fail)
 obtain⟨W,ga,gb,hW,ega,egb,Bga,Bgb,hga,hgb,hgW,HkW⟩:=al2h w (.cells #[.slice da D.length dc,.slice ta T.length tc] 29) (.cells (kC t) 36);rw [← hW];try rw [egb]
 try rw [ega]
 clear hW ega egb;have HM:=jX (H0.out.here.move HkW.out).here;refine yaj (S:=fun u=>Keep [] W u) 8 (by kernel_rfl) (by kernel_rfl) (fun _ _ d _ _ h=>by cases d<;>exact h) ?_;have HM:=jX (HM.out.move (Keep.drew [] W));generalize World.drew W=u at *;have hS0:=HM.out.keep;refine' jV (v:=_) 0 hS0 (fun w hw=>?hf0) (fun K hK=>?kf0)
 case hf0=>(have pga:=yaa (hw.heap Bga.out (by simp));go_simp;try rfl)
 go_simp;refine hK _ ?_;clear hK K;refine' jV (v:=_) 1 hS0 (fun w hw=>?hf1) (fun K hK=>?kf1)
 case hf1=>(have pga:=yaa (hw.heap Bga.out (by simp));go_simp;try rfl)
 go_simp;refine hK _ ?_;clear hK K;refine jV (v:=.agg (kC t)) 2 hS0 (fun w hw=>yak _ _ ⟨gb,0,none⟩ _ rfl rfl (kw_k Bgb.out ⟨w,hw⟩)) (fun K hK=>?_);go_simp;refine hK _ ?_;clear hK K;refine' jV (v:=_) 4 hS0 (fun w hw=>?hf4) (fun K hK=>?kf4)
 case hf4=>(have pga:=yaa (hw.heap Bga.out (by simp));go_simp;try rfl)
 go_simp;refine hK _ ?_;clear hK K;refine' jV (v:=_) 5 hS0 (fun w hw=>?hf5) (fun K hK=>?kf5)
 case hf5=>(have pga:=yaa (hw.heap Bga.out (by simp));go_simp;try rfl)
 go_simp;refine hK _ ?_;clear hK K;refine jV (v:=.agg (kC t)) 6 hS0 (fun w hw=>yak _ _ ⟨gb,0,none⟩ _ rfl rfl (kw_k Bgb.out ⟨w,hw⟩)) (fun K hK=>?_);go_simp;refine hK _ ?_;clear hK K;refine jO 3 (fun K hK=>?_);refine yae 65 #[.slice ta T.length tc,.agg (kC t)] (by go_simp) ?_;refine (Hr1.out ▸ HM.out.cont (v:=.slice ta T.length tc) (a:=T) (by simp [hD.out,hT.out]) t).mono ?_;rintro e w1 ⟨rfl,hm_w1⟩;have HM:=jX hm_w1;clear hm_w1;refine ⟨_,rfl,?_⟩;have hS0:=HM.out.keep;go_simp;refine hK _ _ hS0 ?_;clear hK K;refine jO 7 (fun K hK=>?_);refine yae 65 #[.slice da D.length dc,.agg (kC t)] (by go_simp) ?_;refine (Hr2.out ▸ HM.out.cont (v:=.slice da D.length dc) (a:=D) (by simp [hD.out,hT.out]) t).mono ?_;rintro e w2 ⟨rfl,hm_w2⟩;have HM:=jX hm_w2;clear hm_w2;refine ⟨_,rfl,?_⟩;have hS0:=HM.out.keep;go_simp;refine hK _ _ hS0 ?_;clear hK K;refine ⟨by kernel_rfl,?_⟩;simp only [List.drop_succ_cons,List.drop_zero];go_wp2_with fail;refine bodyPost_ret (results_tmp2 rfl _ _ _) rfl ⟨rfl,H0.out.back HkW.out HM.out (fun p hp=>by simp [hp])⟩
theorem MP.req (h:MP S w0 w L) (hD:(.slice da D.length dc,D)∈L) (hT:(.slice ta T.length tc,T)∈L) (hE:(.slice ea E.length ec,E)∈L) (hU:(.slice ua U.length uc,U)∈L) :
  Calls prog 27 #[.agg #[.slice da D.length dc,.slice ta T.length tc],.agg #[.slice ea E.length ec,.slice ua U.length uc]] w (BoolPost S w0 L (decide (D=E)&&decide (T=U))):=by
 have H0:=jX h;have hD:=jX hD;have hT:=jX hT;have hE:=jX hE;have hU:=jX hU;clear h;have K1:=jX (fun b u M (h:MP S b u M) (h1:(.slice da D.length dc,D)∈M) (h2:(.slice ea E.length ec,E)∈M)=>h.eqd h1 h2);have K2:=jX (fun b u M (h:MP S b u M) (h1:(.slice ta T.length tc,T)∈M) (h2:(.slice ua U.length uc,U)∈M)=>h.eqd h1 h2);cases hr:decide (D=E) with
 | false =>
  rw [hr] at K1;clear K2;generalize decide (T=U)=q;go_enter func27,ntmps27
  go_upto_region 1 with (fail)
  obtain⟨W,ga,gb,hW,ega,egb,Bga,Bgb,hga,hgb,hgW,HkW⟩:=al2h w (.cells #[.slice da D.length dc,.slice ta T.length tc] 29) (.cells #[.slice ea E.length ec,.slice ua U.length uc] 29);rw [← hW];try rw [egb]
  try rw [ega]
  clear hW ega egb;have HM:=jX (H0.out.here.move HkW.out).here;have pga:=yaa (HM.out.keep.heap Bga.out (by simp));have pgb:=yaa (HM.out.keep.heap Bgb.out (by simp));go_wp2_with fail;refine (K1.out _ _ _ HM.out hD.out hE.out).mono ?_;rintro e w1 ⟨rfl,hm_w1⟩;dsimp only;have HM:=jX hm_w1;clear hm_w1;clear pga pgb;go_wp2_with fail;go_ret
  exact ⟨rfl,H0.out.back HkW.out HM.out (fun p hp=>by simp [hp])⟩
 | true =>
  rw [hr] at K1;rw [Bool.true_and];generalize decide (T=U)=q at *;go_enter func27,ntmps27
  go_upto_region 1 with (fail)
  obtain⟨W,ga,gb,hW,ega,egb,Bga,Bgb,hga,hgb,hgW,HkW⟩:=al2h w (.cells #[.slice da D.length dc,.slice ta T.length tc] 29) (.cells #[.slice ea E.length ec,.slice ua U.length uc] 29);rw [← hW];try rw [egb]
  try rw [ega]
  clear hW ega egb;have HM:=jX (H0.out.here.move HkW.out).here;have pga:=yaa (HM.out.keep.heap Bga.out (by simp));have pgb:=yaa (HM.out.keep.heap Bgb.out (by simp));go_wp2_with fail;refine (K1.out _ _ _ HM.out hD.out hE.out).mono ?_;rintro e w1 ⟨rfl,hm_w1⟩;dsimp only;have HM:=jX hm_w1;clear hm_w1;clear pga pgb;have pga:=yaa (HM.out.keep.heap Bga.out (by simp));have pgb:=yaa (HM.out.keep.heap Bgb.out (by simp));go_wp2_with fail;refine (K2.out _ _ _ HM.out hT.out hU.out).mono ?_;rintro e w2 ⟨rfl,hm_w2⟩;dsimp only;have HM:=jX hm_w2;clear hm_w2;clear pga pgb;go_wp2_with fail;go_ret
  exact ⟨rfl,H0.out.back HkW.out HM.out (fun p hp=>by simp [hp])⟩
end
end
section
open Classical
def MkPost (w:World) (e0:Int) (A B:List (Iv K)) (e:Ending) (w':World):Prop :=
 Below w.heap.size w w'∧∃ a c b d,e = .returned (.tuple #[.agg #[.slice a A.length c,.slice b B.length d],.int .i64 e0])∧IvR w' (.slice a A.length c) A∧IvR w' (.slice b B.length d) B
theorem Keep.belowPast {w w':World} {g n:Nat} (h:Keep [g] w w') (hg:n≤g) (hn:n≤w.heap.size):Below n w w' :=
 ⟨h.os,h.tape,h.output,h.size,fun k hk=>h.block k (by omega) (by simp;omega)⟩
theorem mmake_p (l m:List RawI) (hs:∀ r∈l++m,r.sz 100000) (h9:l.length+m.length≤1000) (w:World) (dv tv:Value) (hr:RIR w dv l) (hq:RIR w tv m) (e0:Int) (A B:List (Iv K))
  (he0:fstE (l++m)=e0) (hA:e0≠0→A=[]∧B=[]) (hB:e0=0→∃ D T:List (Iv K),l=D.map RawI.of∧m=T.map RawI.of∧(∀ i∈D,i.f<i.l)∧(∀ i∈T,i.f<i.l)∧A=ybE D∧B=yax 2 (ybE D) (ybE T)∧(ybE D).length≤10000∧(ybE T).length≤10000) :
  Calls prog 57 #[dv,tv] w (MkPost w e0 A B):=by
 have HC:=jX (fun u g (hb:u.heap[g]? = some (.cells #[dv,tv] 27)) (hk:Keep [] w u)=>concat_r l m u g dv tv hb (hr.later hk) (hq.later hk) (by omega));have HCI:=jX (fun r (h:r∈l++m)=>pci_p r (hs r h));have HD:=jX hr;have HT:=jX hq;have HA0:=jX hA;have HB0:=jX hB;have H9:(l++m).length≤1000:=by rw [List.length_append];exact h9
 obtain⟨da,dc,rfl,_⟩:=hr.form;obtain⟨ta,tc,rfl,_⟩:=hq.form;clear hr hq hs hA hB;have HL0:=jX he0;clear he0;go_enter func57,ntmps57
 go_upto_region 1 with (fail)
 obtain⟨W,ga,hW,ega,Bga,hga,hgW,HkW⟩:=al1h w (.cells #[.slice none 0 0,.slice none 0 0] 29);rw [← hW];try rw [ega]
 clear hW ega;refine wp_region_lit ?_;refine' yad (v:=_) (by rfl) (?ha) (fun K hK=>?ka)
 case ha=>(go_simp;try rfl)
 go_simp;refine hK _ _ ?_;clear hK K;refine' yad (v:=_) (by rfl) (?hb) (fun K hK=>?kb)
 case hb=>(go_simp;try rfl)
 go_simp;refine hK _ _ ?_;clear hK K;obtain⟨w1,gs,e1,e2,bgs,hgs,_,hk1⟩:=al1 W (.cells #[.slice da l.length dc,.slice ta m.length tc] 27);refine yaq (v:=.slice (some ⟨W.heap.size,0,none⟩) 2 2) (w':=W.alloc (.cells #[.slice da l.length dc,.slice ta m.length tc] 27)) (by rfl) (yaE 102 2 #[(0,.tmp 10),(1,.tmp 11)] #[(0,.slice da l.length dc),(1,.slice ta m.length tc)] _ rfl (by simp only [List.map_toArray,List.map_cons,List.map_nil];rfl) (yiW _ _ _ _ _ _ _)) (fun K hK=>?_);rw [← e1,e2];clear e1 e2;go_simp;refine hK _ _ ?_;clear hK K;have HK1:=jX (HkW.out.tz hk1);have hga:=hk1.heap Bga.out (by simp);clear hk1 hgs;refine wpList_plain (by rfl) (fun K hK=>?_);refine yae 95 #[.slice (some ⟨gs,0,none⟩) 2 2] (by go_simp) ?_;refine (HC.out w1 gs bgs HK1.out).mono ?_;rintro e w2 ⟨v,rfl,ho⟩;refine ⟨_,rfl,?_⟩;go_simp;refine hK _ _ ?_;clear hK K bgs;have HR:=jX ho.read;obtain⟨ao,ac,rfl⟩:=ho.form;have HK2:=jX (HK1.out.tz ho.keep);have Bga2:=jX (ho.keep.heap hga (by simp));clear ho hga HC;generalize hL:l++m=L at *;have HL:=jX hL;clear hL;refine' yad (v:=_) (by rfl) (?hc) (fun K hK=>?kc)
 case hc=>(go_simp;try rfl)
 go_simp;refine hK _ _ ?_;clear hK K;refine' yad (v:=_) (by rfl) (?hd) (fun K hK=>?kd)
 case hd=>(go_simp;try rfl)
 go_simp;refine hK _ _ ?_;clear hK K;go_wp2_with fail;go_loopw [15] (fun c wr=>∃ k:Nat,k≤L.length∧c = .int .i64 (k:Int)∧fstE L=fstE (L.drop k)∧Below w2.heap.size w2 wr) (fun c _=>L.length-(intOf c).toNat)
 case atStart=>exact ⟨0,Nat.zero_le _,rfl,rfl,Below.refl _ _⟩
 case round =>
  obtain⟨k,hk,rfl,hca,hb⟩:=hrel;have HF:=jX hca;have HB:=jX hb;clear hca hb;by_cases hlt:k<L.length
  ·obtain⟨g,o,rfl,hg,hat⟩:=RIR.elem (HR.out.laterB HB.out) k hlt
   have HI:=jX (HCI.out L[k] (List.getElem_mem hlt));have HErr:=jX (yij hlt HF.out);have HNx:=jX (yhd hlt HF.out);generalize L[k]=r at *;obtain⟨q,hq⟩:∃ q,o+k*20=q:=⟨_,rfl⟩;rw [hq] at hat;have HLd:=jX (ybF wr g q r hat);have HBox:=jX (fun (u:World) (b:Nat) (h:u.heap[b]? = some (.cells r.C 49))=>ybF u b 0 r (ycM h));have HCs:=jX (And.intro (ygW r) (And.intro (yhw r) (show r.C.size=20 from rfl)))
   have hrv:r.v = .agg r.C:=rfl;rw [hrv] at HI HLd HBox;generalize r.C=C at *;generalize eI r=e1 at *;clear hat hrv;have hkc:(k:Int)<(L.length:Int):=by omega
   go_upto_region 3 with (fail)
   refine wp_region_lit ?_;refine' yad (v:=_) (by rfl) (?he) (fun K hK=>?ke)
   case he=>(go_simp;try rfl)
   go_simp;refine hK _ _ ?_;clear hK K;refine yad (v:=.agg C) (by rfl) (yak _ _ ⟨g,q,none⟩ _ rfl rfl HLd.out) (fun K hK=>?_);go_simp;refine hK _ _ ?_;clear hK K;obtain⟨w3,gt,x1,x2,bgt,hgt,_,hk3⟩:=al1 wr (.cells #[.bool false,.string ⟨#[]⟩,.bool false,.string ⟨#[]⟩,.bool false,.string ⟨#[]⟩,.bool false,.string ⟨#[]⟩,.bool false,.bool false,.string ⟨#[]⟩,.bool false,.string ⟨#[]⟩,.bool false,.string ⟨#[]⟩,.bool false,.string ⟨#[]⟩,.bool false,.bool false,.bool false] 49);refine yaq (v:=.pointer (some ⟨wr.heap.size,0,none⟩)) (w':=wr.alloc (.cells #[.bool false,.string ⟨#[]⟩,.bool false,.string ⟨#[]⟩,.bool false,.string ⟨#[]⟩,.bool false,.string ⟨#[]⟩,.bool false,.bool false,.string ⟨#[]⟩,.bool false,.string ⟨#[]⟩,.bool false,.string ⟨#[]⟩,.bool false,.string ⟨#[]⟩,.bool false,.bool false,.bool false] 49)) (by rfl) (yfX _ _ _ rfl) (fun K hK=>?_);rw [← x1,x2];clear x1;go_simp;refine hK _ _ ?_;clear hK K;refine yam (by rfl) _ _ _ rfl gt C rfl rfl _ _ bgt HCs.out.1 (by rw [HCs.out.2.2];rfl) HCs.out.2.1 (fun K hK=>?_);obtain⟨w4,e4,b4,k4⟩:=yal (cs:=C) bgt;rw [e4];go_simp;refine hK _ _ ?_;clear hK K e4 HLd;have HW4:=jX (show Keep [] wr w4 from hk3.trans k4 (by simp;omega))
   have Bgt:=jX b4;have HB2:=jX (HB.out.trans (Below.mono HW4.out.bz HB.out.size));clear b4 k4 hk3 bgt;go_upto_region 4 with (fail)
   refine wp_region_lit ?_;refine yad (v:=.agg C) (by rfl) (yak _ _ ⟨gt,0,none⟩ _ rfl rfl (HBox.out w4 gt Bgt.out)) (fun K hK=>?_);go_simp;refine hK _ _ ?_;clear hK K;refine wpList_plain (by rfl) (fun K hK=>?_);refine yae 96 #[.agg C] (by go_simp) ?_;refine (HI.out _).mono ?_;rintro e w5 ⟨rfl,hb3⟩;refine ⟨_,rfl,?_⟩;go_simp;refine hK _ _ ?_;clear hK K;have HB3:=jX (HB2.out.trans (Below.mono hb3 HB2.out.size));clear hb3 HI HB2 HW4 Bgt HBox HCs x2 hgt;refine' yad (v:=_) (by rfl) (?hf) (fun K hK=>?kf)
   case hf=>(go_simp;try rfl)
   go_simp;refine hK _ _ ?_;clear hK K;by_cases he:e1=0
   ·subst he
    have HN:=jX (HNx.out rfl);clear HNx HErr;go_wp2_with fail;go_roundw
    case rel=>exact ⟨k+1,by omega,congrArg (Value.int .i64) (by omega),HN.out,HB3.out⟩
    case measure=>simp [intOf];omega
   have hE:=HErr.out he;have hne:e0≠0:=by rw [← HL0.out,hE];exact he
   obtain⟨rfl,rfl⟩:=HA0.out hne;obtain rfl:e1=e0:=by rw [← HL0.out,hE]
   clear HNx HErr HF hE HA0 HB0;have hb1:(e1 != 0)=true:=by rw [bne_iff_ne];exact he
   have bz:=jX ((HB3.out.block ga (yab Bga2.out)).trans Bga2.out);have pga:=yaa bz.out;have fga:=yaf bz.out;have lga:=yab bz.out;go_wp2_with fail;obtain⟨u9,e9,b9,k9⟩:=st2 (x:=.slice none 0 0) (y:=.slice none 0 0) bz.out;rw [← e9];clear e9 pga fga lga;have pga:=yaa b9;refine bodyPost_ret (v:=.tuple #[.agg #[.slice none 0 0,.slice none 0 0],.int .i64 e1]) ?_ rfl ⟨?_,none,0,none,0,rfl,RowE.nil _,RowE.nil _⟩
   ·rw [results_cell_tmp rfl];go_simp
   have h5:=HK2.out.bz.trans (Below.mono HB3.out HK2.out.size);exact h5.trans (k9.belowPast hga h5.size)
  obtain rfl:k=L.length:=by omega
  have hE:=yim HF.out;obtain rfl:e0=0:=by rw [← HL0.out,hE]
  obtain⟨D,T,hD,hT,vD,vT,rfl,rfl,n1,n2⟩:=HB0.out rfl;have HBw:=jX (HK2.out.bz.trans (Below.mono HB.out HK2.out.size));have hlD:D.length≤10000:=by have:=congrArg List.length hD;rw [List.length_map] at this;omega
  have hlT:T.length≤10000:=by have:=congrArg List.length hT;rw [List.length_map] at this;omega
  have H1:=jX (ygC D vD wr (.slice da l.length dc) (yeI (by rw [← hD];exact HD.out.laterB HBw.out)) hlD);have H2:=jX (fun u (hk:Keep [] wr u)=>ygC T vT u (.slice ta m.length tc) (yeI (by rw [← hT];exact (HT.out.laterB HBw.out).later hk)) hlT);have H3:=jX (fun u v1 v2 h1 h2=>Intersect_p (ybE D) (ybE T) (ybw 1 D []).val (ybw 1 T []).val u v1 v2 h1 h2 n1 n2);have bz:=jX ((HB.out.block ga (yab Bga2.out)).trans Bga2.out);clear HA0 HB0 HF hE HCI hD hT vD vT hlD hlT;generalize ybE D=A at *;generalize ybE T=U at *;generalize yax 2 A U=B at *;go_wp2_with fail;refine H1.out.mono ?_;rintro e u1 ⟨v1,rfl,hv1,k1⟩;obtain⟨a1,c1,rfl,_⟩:=hv1.form;dsimp only;have HV1:=jX hv1;have K1:=jX k1;clear hv1 k1 H1;go_wp2_with fail;refine (H2.out u1 K1.out).mono ?_;rintro e u2 ⟨v2,rfl,hv2,k2⟩;obtain⟨a2,c2,rfl,_⟩:=hv2.form;dsimp only;have HV2:=jX hv2;have HV1:=jX (HV1.out.later k2);have K2:=jX (K1.out.tz k2);clear hv2 k2 H2 K1;go_wp2_with fail;refine (H3.out u2 _ _ HV1.out HV2.out).mono ?_;rintro e u3 ⟨v3,rfl,hv3,k3⟩;obtain⟨a3,c3,rfl,_⟩:=hv3.form;dsimp only;have HV3:=jX hv3;have HV1:=jX (HV1.out.later k3);have K3:=jX (K2.out.tz k3);have bz:=jX (K3.out.heap bz.out (by simp));clear hv3 k3 H3 K2 HV2;have pga:=yaa bz.out;have fga:=yaf bz.out;have lga:=yab bz.out;go_wp2_with fail;obtain⟨u9,e9,b9,k9⟩:=st2 (x:=.slice a1 A.length c1) (y:=.slice a3 B.length c3) bz.out;rw [← e9];clear e9 pga fga lga;have pga:=yaa b9;refine bodyPost_ret (v:=.tuple #[.agg #[.slice a1 A.length c1,.slice a3 B.length c3],.int .i64 0]) ?_ rfl ⟨?_,a1,c1,a3,c3,rfl,IvR.laterBox HV1.out bz.out (by simp) k9,IvR.laterBox HV3.out bz.out (by simp) k9⟩
  ·rw [results_cell_tmp rfl];go_simp
  have h5:=HBw.out.trans (Below.mono K3.out.bz HBw.out.size);exact h5.trans (k9.belowPast hga h5.size)
end
section
variable {P:Program} {ops:Array Oper} {md:Region.Mode} {S:World→Prop} {Q:Exit→Act→World→Prop}
def ycA (P:Program) (md:Region.Mode) (ops:Array Oper) (Q:Exit→Act→World→Prop) (S:World→Prop) (n:Nat) (L:Array Bool→Act→World→Prop):Nat→Array Bool→Act→World→Prop
 | 0,listed,a,w=>∀ U,Keep [] w U→L listed a U
 | f+1,listed,a,w=>∀ U,Keep [] w U →
  (∃ i o v,ops[i]? = some o∧i<n∧Region.free md ops listed i=true∧(Region.ready md ops listed).contains i=true∧YieldsIf P ops S o v a∧S U∧ycA P md ops Q S n L f (listed.setIfInBounds i true) (a.put o.dst v) U) ∨
  (Region.ready md ops listed≠[]∧∀ i∈Region.ready md ops listed,i<n∧wpOp P ops Q i (fun a' w'=>S w'∧Keep [] U w'∧ycA P md ops Q S n L f (listed.setIfInBounds i true) a' w') a U)
def yhk (P:Program) (md:Region.Mode) (ops:Array Oper) (Q:Exit→Act→World→Prop) (S:World→Prop) (n:Nat) (L:Array Bool→Act→World→Prop):Nat→Array Bool→Act→World→Prop
 | 0,listed,a,w=>∀ U,Keep [] w U→L listed a U
 | f+1,listed,a,w=>∀ U,Keep [] w U→Region.ready md ops listed≠[]∧∀ i∈Region.ready md ops listed,i<n∧wpOp P ops Q i (fun a' w'=>S w'∧Keep [] U w'∧yhk P md ops Q S n L f (listed.setIfInBounds i true) a' w') a U
theorem yhk.later {n:Nat} {L:Array Bool→Act→World→Prop}:∀ {f:Nat} {listed:Array Bool} {a:Act} {w U:World},yhk P md ops Q S n L f listed a w→Keep [] w U→yhk P md ops Q S n L f listed a U
 | 0,_,_,_,_,h,hU=>fun V hV=>h V (hU.tz hV)
 | _+1,_,_,_,_,h,hU=>fun V hV=>h V (hU.tz hV)
theorem yhN {n i:Nat} {oi:Oper} {v:Value} {L:Array Bool→Act→World→Prop} (hi:ops[i]? = some oi) (hsel:∀ (j:Nat) (o:Oper) cs b,ops[j]? = some o→o.op ≠ .select cs b)
  (hQ:∀ c a w,Q (.panic c) (a.put oi.dst v) w→Q (.panic c) a w) (hSk:∀ w U,S w→Keep [] w U→S U)
  (hs:Region.sinkB md ops n=true) (hc:Region.chainB md ops n=true) (hn:n<ops.size) (hin:i<n)
  (hdone:∀ listed a w,L listed a w→∀ j∈Region.ready md ops listed,n≤j) :
  ∀ (f:Nat) (listed:Array Bool) (a:Act) (w:World),HeadInv md ops n listed →
   (∀ j oj,ops[j]? = some oj→j≠i→listed.getD j true=false→(∀ e∈oj.after,Region.binds md e=true→e.on≠i)→oi.apart ops oj=true) →
   i∈Region.ready md ops listed→YieldsIf P ops S oi v a→S w →
   yhk P md ops Q S n L f (listed.setIfInBounds i true) (a.put oi.dst v) w→yhk P md ops Q S n L (f+1) listed a w:=by
 intro f;induction f with
 | zero =>
  intro listed a w inv _ hr hy hS H U hU;refine ⟨fun h=>(by rw [h] at hr;cases hr),fun j hj=>?_⟩
  have hjn:j<n:=by
   rcases Nat.lt_or_ge j n with h|h
   ·exact h
   exact absurd hj (tail_waits hs hc hn inv _ i rfl hin (mem_ready.1 hr).1 j h)
  refine ⟨hjn,?_⟩;by_cases hji:j=i
  ·subst hji;exact hy.wpOp hi (hSk _ _ hS hU) ⟨hSk _ _ hS hU,Keep.refl _ _,H.later hU⟩
  have:=hdone _ _ _ (H w (Keep.refl _ _)) j (ready_mono hj hji);omega
 | succ f ih =>
  intro listed a w inv hfree hr hy hS H U hU;have hSU:=hSk _ _ hS hU;have hun:=(mem_ready.1 hr).1;refine ⟨fun h=>(by rw [h] at hr;cases hr),fun j hj=>?_⟩
  have hjn:j<n:=by
   rcases Nat.lt_or_ge j n with h|h
   ·exact h
   exact absurd hj (tail_waits hs hc hn inv _ i rfl hin hun j h)
  refine ⟨hjn,?_⟩;by_cases hji:j=i
  ·subst hji;exact hy.wpOp hi hSU ⟨hSU,Keep.refl _ _,H.later hU⟩
  have h1:=((H U hU).2 j (ready_mono hj hji)).2;obtain⟨hjun,oj,hoj,hall⟩:=mem_ready.1 hj
  have hnot:∀ e∈oj.after,Region.binds md e=true→e.on≠i:=fun e he hb heq=>by
   have h1:=hall e he hb;rw [heq,getD_both hun] at h1;cases h1
  have h2:=wpOp_putIf hoj (hfree j oj hoj hji hjun hnot) (fun cs b=>hsel i oi cs b hi) (fun cs b=>hsel j oj cs b hoj) hQ hy h1
  have hfree' : ∀ k ok, ops[k]? = some ok → k ≠ i → (listed.setIfInBounds j true).getD k true = false →
    (∀ e∈ok.after,Region.binds md e=true→e.on≠i)→oi.apart ops ok=true:=fun k ok hk hki hun hno=>by
   refine hfree k ok hk hki ?_ hno;by_cases hjk:j=k
   ·subst hjk;exact hjun
   rw [getD_set_ne true hjk] at hun;exact hun
  refine wpOp_mono (fun a' w' h3=>⟨h3.2.1,h3.2.2.1,ih (listed.setIfInBounds j true) a' w' (inv.set hj hjn) hfree' (ready_mono hr (Ne.symm hji)) h3.1 h3.2.1 ?_⟩) h2;rw [Array.setIfInBounds_comm _ _ hji];exact h3.2.2.2
theorem yeJ {n:Nat} {L:Array Bool→Act→World→Prop} (hsel:Region.noSelect ops=true) (hQ:∀ c a d v w,Q (.panic c) (Act.put a d v) w→Q (.panic c) a w) (hSk:∀ w U,S w→Keep [] w U→S U)
  (hs:Region.sinkB md ops n=true) (hc:Region.chainB md ops n=true) (hn:n<ops.size) (hdone:∀ listed a w,L listed a w→∀ j∈Region.ready md ops listed,n≤j) :
  ∀ (f:Nat) (listed:Array Bool) (a:Act) (w:World),HeadInv md ops n listed→ycA P md ops Q S n L f listed a w→yhk P md ops Q S n L f listed a w
 | 0,_,_,_,_,h=>h
 | f+1,listed,a,w,inv,h=>by
  intro U hU;rcases h U hU with ⟨i,o,v,ho,hi,hf,hr,hy,hS,hrest⟩|⟨hne,hall⟩
  ·have hr':i∈Region.ready md ops listed:=by simpa using hr
   exact yhN ho (Region.noSelect_spec hsel) (fun c a w h=>hQ c _ _ _ w h) hSk hs hc hn hi hdone f listed a U inv (Region.free_spec ho hf) hr' hy hS
    (yeJ hsel hQ hSk hs hc hn hdone f _ _ _ (inv.set hr' hi) hrest) U (Keep.refl _ _)
  exact ⟨hne,fun i hi=>⟨(hall i hi).1,wpOp_mono (fun a' w' h'=>⟨h'.1,h'.2.1,yeJ hsel hQ hSk hs hc hn hdone f _ _ _ (inv.set hi (hall i hi).1) h'.2.2⟩) (hall i hi).2⟩⟩
theorem wpOp_over {j:Nat} {oj:Oper} {d:Tmp} {v:Value} (hj:ops[j]? = some oj) (h1:d ∉ oj.looksAt ops) (h2:oj.dst≠some d) (hsj:∀ cs b,oj.op ≠ .select cs b)
  (hQ:∀ c a w,Q (.panic c) a w→Q (.panic c) (a.put (some d) v) w) {K:Act→World→Prop} {a:Act} {w:World} (h:wpOp P ops Q j K a w) :
  wpOp P ops Q j (fun a' w'=>∃ b,a'=b.put (some d) v∧K b w') (a.put (some d) v) w:=by
 have h1':∀ e,some d=some e→e ∉ oj.looksAt ops:=fun e he=>by injection he with he;subst he;exact h1
 have h2':∀ e,some d=some e→oj.dst≠some e:=fun e he=>by injection he with he;subst he;exact h2
 unfold wpOp at *;simp only [hj] at *;rw [wanted_put oj a (some d) v h1'];split
 ·rename_i hw
  simp only [hw,if_true] at h;rcases h with h|⟨hasks,hlets⟩
  case inr=>exact .inr ⟨by unfold Oper.asks at *;rw [execOp_put oj hsj a (some d) v h1'];exact hasks,hlets⟩
  refine .inl ?_;unfold Oper.wp at *;rw [execOp_put oj hsj a (some d) v h1'];generalize (execOp a.eval oj).run P w=r at *;cases r with
  | ok n w' =>
   cases n<;>simp only [Oper.upon] at h ⊢
   case value u=>exact ⟨_,Act.put_comm a v u h2',h⟩
   case skip=>exact ⟨_,Act.put_comm a v undef h2',h⟩
   case defer e =>
    have h3:({ (a.put (some d) v) with defers:=e :: (a.put (some d) v).defers }:Act)=({ a with defers:=e :: a.defers }:Act).put (some d) v:=Act.put_defers a (some d) v e;refine ⟨_,?_,h⟩;rw [← Act.put_comm _ v undef h2',← h3]
   case enter f args =>
    refine Calls.mono h fun e w'' he=>?_;cases e with
    | returned u=>exact ⟨_,Act.put_comm a v u h2',he⟩
    | panicked c=>exact hQ _ _ _ he
    | outgrown=>exact he
   case row row args=>exact Rows.mono h fun u w'' he=>⟨_,Act.put_comm a v u h2',he⟩
  | halt x w' =>
   cases x<;>simp only [Oper.upon] at h ⊢
   case panic u=>exact hQ _ _ _ h
 rename_i hw;simp only [hw] at h;exact ⟨_,Act.put_comm a v undef h2',h⟩
theorem wpOp_pl {j:Nat} {oj:Oper} (hj:ops[j]? = some oj) (hsj:∀ cs b,oj.op ≠ .select cs b) (hQ:∀ c a d v w,Q (.panic c) a w→Q (.panic c) (Act.put a d v) w) {K:Act→World→Prop} {w:World} :
  ∀ (L:List (Tmp × Nat)) (a:Act),(∀ d∈L.map (·.1),d ∉ oj.looksAt ops∧oj.dst≠some d)→wpOp P ops Q j K a w→wpOp P ops Q j (fun a' w'=>∃ b,a'=pl L b∧K b w') (pl L a) w
 | [],a,_,h=>wpOp_mono (fun a' w' h'=>⟨a',rfl,h'⟩) h
 | (d,g) :: L,a,hL,h=>by
  have ih:=wpOp_pl hj hsj hQ L a (fun e he=>hL e (by simp at he ⊢;exact .inr he)) h;have hd:=hL d (by simp);refine wpOp_mono ?_ (wpOp_over (v:=.pointer (some ⟨g,0,none⟩)) hj hd.1 hd.2 hsj (fun c a w h=>hQ c a _ _ w h) ih);rintro a' w' ⟨b,rfl,c,rfl,hc⟩;exact ⟨c,rfl,hc⟩
theorem unal_dst (o:Oper):(unal o).dst=o.dst:=by unfold unal;split<;>rfl
theorem ygU (tmps:Array Value):yielded (ops.map unal) tmps=yielded ops tmps:=by
 funext i
 unfold yielded;rw [Array.getElem?_map];cases ops[i]? with
 | none=>rfl
 | some o=>simp [unal_dst]
theorem wpOp_unal {i:Nat} {o:Oper} (ho:ops[i]? = some o) (hal:isAl o=false) {K:Act→World→Prop} {a:Act} {w:World} (h:wpOp P (ops.map unal) Q i K a w):wpOp P ops Q i K a w:=by
 have ho':(ops.map unal)[i]? = some o:=by
  rw [Array.getElem?_map,ho];have:unal o=o:=by unfold unal;rw [hal];rfl
  simp [this]
 unfold wpOp at *;simp only [ho,ho'] at *;rw [ygU] at h;exact h
theorem yjD {i:Nat} {o:Oper} (ho:ops[i]? = some o) (hal:isAl o=true) (hg:o.guard=none) {K:Act→World→Prop} {a:Act} {w:World} (h:wpOp P (ops.map unal) Q i K a w):K (a.put o.dst undef) w:=by
 have h2:unal o = { o with op:=.move (.const undef) }:=by unfold unal;rw [if_pos hal]
 have ho':(ops.map unal)[i]? = some { o with op:=.move (.const undef) }:=by rw [Array.getElem?_map,ho,← h2];rfl
 unfold wpOp at h;simp only [ho'] at h;rw [if_pos (by simp [Region.wanted,hg])] at h;rcases h with h|⟨h,_⟩
 ·unfold Oper.wp execOp at h
  simpa [Sem.run_pure,Oper.upon,Act.eval] using h
 exfalso;unfold Oper.asks execOp at h;simp [Sem.run_pure] at h
 exact absurd h (by
  show ¬ noRoomEvent∈(#[]:Array Event)
  simp)
structure ACon (P:Program) (D:Tmp→Option Obj) (ops:Array Oper) (n:Nat):Prop where
 al:∀ i o,i<n→ops[i]? = some o→isAl o=true→o.guard=none∧∃ d z,o.dst=some d∧D d=some z∧∀ ev w,(execOp ev o).run P w = .ok (.value (.pointer (some ⟨w.heap.size,0,none⟩))) (w.alloc z)
 qu:∀ i o,i<n→ops[i]? = some o→isAl o=false→(∀ cs b,o.op ≠ .select cs b)∧∀ d,(D d).isSome=true→d ∉ o.looksAt ops∧o.dst≠some d
 ap:∀ i j o o' d,i<n→j<n→ops[i]? = some o→ops[j]? = some o'→isAl o=true→isAl o'=true→o.dst=some d→o'.dst=some d→i=j
theorem simN {W:World} {D:Tmp→Option Obj} {n g:Nat} {L:Array Bool→Act→World→Prop} (hC:ACon P D ops n) (hQ:∀ c a d v w,Q (.panic c) a w→Q (.panic c) (Act.put a d v) w)
  (hL:∀ listed a Lp w,AInv W D ops n listed Lp w→HeadInv md (ops.map unal) n listed→L listed a w→wpAny P md ops Q g listed (pl Lp a) w) :
  ∀ (f:Nat) (listed:Array Bool) (a:Act) (Lp:List (Tmp × Nat)) (w:World),AInv W D ops n listed Lp w→HeadInv md (ops.map unal) n listed →
   yhk P md (ops.map unal) Q S n L f listed a w→wpAny P md ops Q (f+g) listed (pl Lp a) w
 | 0,listed,a,Lp,w,inv,hI,H=>by rw [Nat.zero_add];exact hL _ _ _ _ inv hI (H w (Keep.refl _ _))
 | f+1,listed,a,Lp,w,inv,hI,H=>by
  rw [show f+1+g=(f+g)+1 by omega]
  have HW:=H w (Keep.refl _ _);refine ⟨fun h0=>absurd (by rw [ybK];exact h0) HW.1,fun i hi=>?_⟩;have hi':i∈Region.ready md (ops.map unal) listed:=by rw [ybK];exact hi
  obtain⟨hun,o,ho,_⟩:=mem_ready.1 hi;obtain⟨hin,hop⟩:=HW.2 i hi';have hlt:i<ops.size:=(Array.getElem?_eq_some_iff.1 ho).1
  have hunf:listed.getD i false=false:=by
   have hs:=inv.size;simp [show i<listed.size by omega] at hun ⊢
   exact hun
  have hset:∀ j,j≠i→(listed.setIfInBounds i true).getD j false=listed.getD j false:=fun j hj=>by
   simp [Array.getElem?_setIfInBounds_ne (Ne.symm hj)]
  have hseti:(listed.setIfInBounds i true).getD i false=true:=by
   simp [show i<listed.size by rw [inv.size];exact hlt]
  cases hal:isAl o with
  | true =>
   obtain⟨hg,d,z,hd,hz,hrun⟩:=hC.al i o hin ho hal;obtain⟨_,_,hnext⟩:=yjD ho hal hg hop;unfold wpOp;simp only [ho];rw [if_pos (by simp [Region.wanted,hg])];refine .inl ?_;unfold Oper.wp;rw [hrun];simp only [Oper.upon];rw [hd] at hnext ⊢
   have hdL:d ∉ Lp.map (·.1):=fun hm=>by
    have:=(inv.cover i o d hin ho hal hd).2 hm;rw [hunf] at this;cases this
   have e:(pl Lp a).put (some d) (.pointer (some ⟨w.heap.size,0,none⟩))=pl ((d,w.heap.size) :: Lp) (a.put (some d) undef):=by
    rw [pl_over _ _ _ _ _ hdL];rfl
   rw [e];refine simN hC hQ hL f _ _ _ _ ⟨inv.keep.aP z,?_,?_,?_,?_,by simp [inv.size]⟩ (hI.set hi' hin) (hnext.later (Keep.alloc [] w z))
   ·intro x hx
    rcases List.mem_cons.1 hx with rfl|hx
    ·exact ⟨z,hz,World.alloc_heap_new w z,inv.keep.size⟩
    obtain⟨z',h1,h2,h3⟩:=inv.heap x hx;exact ⟨z',h1,(Keep.alloc [] w z).heap h2 (by simp),h3⟩
   ·simp only [List.map_cons,List.nodup_cons];exact ⟨hdL,inv.nd⟩
   ·simp only [List.map_cons,List.nodup_cons]
    refine ⟨fun hm=>?_,inv.ndb⟩;obtain⟨x,hx,hxe⟩:=List.mem_map.1 hm;obtain⟨z',_,h2,_⟩:=inv.heap x hx;have:=yab h2;omega
   intro j oj dj hj hoj hjal hdj;by_cases hji:j=i
   ·subst hji
    have:oj=o:=Option.some.inj (hoj.symm.trans ho);subst this;rw [hd] at hdj;injection hdj with hdj;subst hdj;rw [hseti];simp
   rw [hset j hji,inv.cover j oj dj hj hoj hjal hdj];simp only [List.map_cons,List.mem_cons];constructor
   ·exact fun h=>.inr h
   rintro (h|h)
   ·subst h
    exact absurd (hC.ap j i oj o dj hj hin hoj ho hjal hal hdj hd) hji
   exact h
  | false =>
   obtain⟨hsel,hlook⟩:=hC.qu i o hin ho hal
   have hDm:∀ d∈Lp.map (·.1),(D d).isSome=true:=fun d hd=>by
    obtain⟨x,hx,hxe⟩:=List.mem_map.1 hd;obtain⟨z,h1,_⟩:=inv.heap x hx;rw [← hxe,h1];rfl
   refine wpOp_mono ?_ (wpOp_pl ho hsel hQ Lp a (fun d hd=>hlook d (hDm d hd)) (wpOp_unal ho hal hop));rintro a' w' ⟨b,rfl,_,hk,hn⟩;refine simN hC hQ hL f _ _ _ _ ⟨inv.keep.tz hk,?_,inv.nd,inv.ndb,?_,by simp [inv.size]⟩ (hI.set hi' hin) hn
   ·intro x hx
    obtain⟨z',h1,h2,h3⟩:=inv.heap x hx;exact ⟨z',h1,hk.heap h2 (by simp),h3⟩
   intro j oj dj hj hoj hjal hdj;by_cases hji:j=i
   ·subst hji
    have:oj=o:=Option.some.inj (hoj.symm.trans ho);subst this;rw [hal] at hjal;cases hjal
   rw [hset j hji];exact inv.cover j oj dj hj hoj hjal hdj
theorem ydU {n:Nat} {L L':Array Bool→Act→World→Prop} (hL:∀ listed a w,L listed a w→L' listed a w):∀ (f:Nat) (listed:Array Bool) (a:Act) (w:World),ycA P md ops Q S n L f listed a w→ycA P md ops Q S n L' f listed a w
 | 0,_,_,_,h=>fun U hU=>hL _ _ _ (h U hU)
 | f+1,listed,a,w,h=>by
  intro U hU;rcases h U hU with ⟨i,o,v,ho,hi,hf,hr,hy,hS,hrest⟩|⟨hne,hall⟩
  ·exact .inl ⟨i,o,v,ho,hi,hf,hr,hy,hS,ydU hL f _ _ _ hrest⟩
  exact .inr ⟨hne,fun i hi=>⟨(hall i hi).1,wpOp_mono (fun a' w' h'=>⟨h'.1,h'.2.1,ydU hL f _ _ _ h'.2.2⟩) (hall i hi).2⟩⟩
theorem yez {id:Nat} {a:Act} {w:World} {l:List Oper} (n:Nat) (D:Tmp→Option Obj) (ds:List Tmp) (hm:P.follows .mixedOrders=true)
  (hB:(Region.noSelect (l.map unal).toArray&&decide (n<(l.map unal).toArray.size)&&Region.sinkB .any (l.map unal).toArray n&&Region.chainB .any (l.map unal).toArray n)=true)
  (hC:ACon P D l.toArray n) (hds:ds.Nodup) (hD:∀ d,(D d).isSome=true↔d∈ds) (hall:∀ d∈ds,∃ i o,i<n∧l.toArray[i]? = some o∧isAl o=true∧o.dst=some d)
  (hQ:∀ c a d v w,Q (.panic c) (Act.put a d v) w→Q (.panic c) a w) (hQ2:∀ c a d v w,Q (.panic c) a w→Q (.panic c) (Act.put a d v) w) (hSk:∀ w U,S w→Keep [] w U→S U)
  (h:ycA P .any (l.map unal).toArray Q S n (fun listed' a' w'=>Region.seqB .any (l.map unal).toArray (l.toArray.size-n) n listed'=true∧∀ p:Tmp→Nat,(∀ d∈ds,w.heap.size≤p d)→(∀ d∈ds,∀ e∈ds,p d=p e→d=e)→Keep [] w w'→(∀ d∈ds,∀ z,D d=some z→w'.heap[p d]? = some z)→wpList P l.toArray Q (l.drop n) (pl (ds.map fun d=>(d,p d)) a') w') n (Array.replicate l.toArray.size false) a w.drew) :
  (Code.region id l.toArray true).wp P Q a w:=by
 simp only [Bool.and_eq_true,decide_eq_true_eq] at hB;obtain⟨⟨⟨hsel,hn⟩,hs⟩,hc⟩:=hB;have hn':n<l.length:=by simpa using hn
 have hmap:(l.map unal).toArray=l.toArray.map unal:=by simp
 have hdl:(l.drop n).length=l.toArray.size-n:=by simp
 have inv0:HeadInv .any (l.map unal).toArray n (Array.replicate l.toArray.size false) :=
  ⟨by simp,fun j oj _ hl=>(by rw [getD_replicate_false] at hl;cases hl),fun t _ ht=>getD_in (by simpa using ht) (getD_replicate_false _ _)⟩
 have H:=yeJ hsel hQ hSk hs hc hn (fun listed a w hL=>seqB_ready hL.1) n _ a _ inv0 h;refine wp_region_any hm ?_;rw [hmap] at H
 have hsim:=simN (P:=P) (md:=.any) (S:=S) (Q:=Q) (W:=w) (ops:=l.toArray) (D:=D) (n:=n) (g:=l.toArray.size-n) hC hQ2
  (fun listed a' L w' inv hI hL=>by
   rw [← hmap] at hI;obtain⟨hseq,hq⟩:=hL;rw [← hmap] at hseq
   -- all the head has come up
   have hdone:∀ i,i<n→listed.getD i false=true:=fun i hi=>by
    cases hb:listed.getD i true with
    | true =>
     have hs2:=inv.size;have:i<l.toArray.size:=by simp;omega
     simp [show i<listed.size by omega] at hb ⊢
     exact hb
    | false =>
     exfalso;have hw:=tail_waits hs hc hn hI _ i rfl hi hb n (Nat.le_refl _);obtain⟨g,hg⟩:∃ g,l.toArray.size-n=g+1:=⟨l.toArray.size-n-1,by simp at hn ⊢;omega⟩;rw [hg] at hseq;simp only [Region.seqB,Bool.and_eq_true,decide_eq_true_eq] at hseq;rw [hseq.1] at hw;simp at hw
   have hmem:∀ d,d∈L.map (·.1)↔d∈ds:=fun d=>by
    constructor
    ·intro hd
     obtain⟨x,hx,hxe⟩:=List.mem_map.1 hd;obtain⟨z,h1,_⟩:=inv.heap x hx;rw [← hD,← hxe,h1];rfl
    intro hd;obtain⟨i,o,hi,ho,hal,hod⟩:=hall d hd;exact (inv.cover i o d hi ho hal hod).1 (hdone i hi)
   have hlk:=lookup_mem L inv.nd
   have hLe:L=(L.map (·.1)).map fun d=>(d,(L.lookup d).getD 0):=by
    rw [List.map_map];conv=>lhs;rw [← List.map_id L]
    apply List.map_congr_left;intro x hx;show x=(x.1,(L.lookup x.1).getD 0)
    rw [hlk x hx]
   have hpm:L.Perm (ds.map fun d=>(d,(L.lookup d).getD 0)):=by
    have:=(nodup_perm inv.nd hds hmem).map (fun d=>(d,(L.lookup d).getD 0));rwa [← hLe] at this
   have hget:∀ d∈ds,∃ x∈L,x.1=d∧(L.lookup d).getD 0=x.2:=fun d hd=>by
    obtain⟨x,hx,hxe⟩:=List.mem_map.1 ((hmem d).2 hd);exact ⟨x,hx,hxe,by rw [← hxe];exact hlk x hx⟩
   rw [pl_perm hpm inv.nd]
   have hwl:=hq (fun d=>(L.lookup d).getD 0) (fun d hd=>by
    obtain⟨x,hx,hxe,e⟩:=hget d hd;obtain⟨z,_,_,h3⟩:=inv.heap x hx;show w.heap.size≤(L.lookup d).getD 0
    rw [e];exact h3) (fun d hd e he hde=>by
    obtain⟨x,hx,hxe,ex⟩:=hget d hd;obtain⟨y,hy,hye,ey⟩:=hget e he;rw [ex,ey] at hde;have hxy:x=y:=snd_inj inv.ndb hx hy hde
    rw [← hxe,← hye,hxy]) inv.keep (fun d hd z hz=>by
    obtain⟨x,hx,hxe,e⟩:=hget d hd;obtain⟨z',h1,h2,_⟩:=inv.heap x hx;rw [hxe,hz] at h1;injection h1 with h1;subst h1;show w'.heap[(L.lookup d).getD 0]? = _
    rw [e];exact h2)
   have:=wpAny_of_seq (md:=.any) (Q':=Q) (l.drop n) n listed _ w' (fun j=>by simp [List.getElem?_drop]) (by rw [hdl,← yeD,← hmap];exact hseq) hwl
   rwa [hdl] at this) n (Array.replicate l.toArray.size false) a [] w.drew
  ⟨Keep.drew _ _,by simp,by simp,by simp,fun i o d _ _ _ _=>by rw [getD_replicate_false];simp,by simp⟩ (by rw [← hmap];exact inv0) H
 rw [show n+(l.toArray.size-n)=l.toArray.size by simp;omega] at hsim
 exact hsim
def noSel (o:Oper):Bool:=match o.op with | .select ..=>false|_=>true
theorem yju {o:Oper} (h:noSel o=true):∀ cs b,o.op ≠ .select cs b:=by
 intro cs b e;unfold noSel at h;rw [e] at h;cases h
def acN (ops:Array Oper) (n:Nat) (ds:List (Tmp × TypeId)):Bool :=
 decide ((List.range n).filterMap (yee ops)=ds)&&decide ((ds.map (·.1)).Nodup) &&
 (List.range n).all fun i=>match ops[i]? with
  | some o=>if isAl o then o.guard.isNone&&o.dst.isSome else (noSel o&&(ds.map (·.1)).all fun d=>!(o.looksAt ops).contains d&&o.dst != some d)
  | none=>true
theorem yeO {id:Nat} {a:Act} {w:World} {l:List Oper} (n:Nat) (ds:List (Tmp × TypeId)) (Z:TypeId→Obj) (hm:P.follows .mixedOrders=true) 
  (hB:(Region.noSelect (l.map unal).toArray&&decide (n<(l.map unal).toArray.size)&&Region.sinkB .any (l.map unal).toArray n&&Region.chainB .any (l.map unal).toArray n)=true)
  (hA:acN l.toArray n ds=true) (hz:∀ t∈ds.map (·.2),∀ (ev:Operand→Value) (w:World) (o:Oper),o.op = .alloc t→(execOp ev o).run P w = .ok (.value (.pointer (some ⟨w.heap.size,0,none⟩))) (w.alloc (Z t)))
  (hQ:∀ c a d v w,Q (.panic c) (Act.put a d v) w→Q (.panic c) a w) (hQ2:∀ c a d v w,Q (.panic c) a w→Q (.panic c) (Act.put a d v) w) (hSk:∀ w U,S w→Keep [] w U→S U)
  (h:ycA P .any (l.map unal).toArray Q S n (fun listed' a' w'=>Region.seqB .any (l.map unal).toArray (l.toArray.size-n) n listed'=true∧∀ p:Tmp→Nat,(∀ d∈ds.map (·.1),w.heap.size≤p d)→(∀ d∈ds.map (·.1),∀ e∈ds.map (·.1),p d=p e→d=e)→Keep [] w w'→(∀ e∈ds,w'.heap[p e.1]? = some (Z e.2))→wpList P l.toArray Q (l.drop n) (pl ((ds.map (·.1)).map fun d=>(d,p d)) a') w') n (Array.replicate l.toArray.size false) a w.drew) :
  (Code.region id l.toArray true).wp P Q a w:=by
 unfold acN at hA;simp only [Bool.and_eq_true,decide_eq_true_eq,List.all_eq_true,List.mem_range] at hA;obtain⟨⟨hf,hnd⟩,hall⟩:=hA
 have hin:∀ i o,i<n→l.toArray[i]? = some o→isAl o=true→∃ d t,o.dst=some d∧o.op = .alloc t∧yee l.toArray i=some (d,t)∧(d,t)∈ds∧o.guard=none:=fun i o hi ho hal=>by
  have h1:=hall i hi;simp only [ho,hal,if_true,Bool.and_eq_true,Option.isNone_iff_eq_none,Option.isSome_iff_exists] at h1;obtain⟨hg,d,hd⟩:=h1;obtain⟨t,ht⟩:=al_form hal;have e:yee l.toArray i=some (d,t):=by unfold yee;simp only [ho,ht,hd]
  exact ⟨d,t,hd,ht,e,by rw [← hf];exact List.mem_filterMap.2 ⟨i,List.mem_range.2 hi,e⟩,hg⟩
 have hlk:∀ d t,(d,t)∈ds→ds.lookup d=some t:=fun d t hm=>by
  have:∀ L:List (Tmp × TypeId),(L.map (·.1)).Nodup→(d,t)∈L→L.lookup d=some t:=by
   intro L;induction L with
   | nil=>intro _ h;cases h
   | cons e L ih =>
    intro hn hm;obtain⟨e1,e2⟩:=e;simp only [List.map_cons,List.nodup_cons] at hn;rw [List.lookup_cons];rcases List.mem_cons.1 hm with h|h
    ·injection h with h1 h2
     subst h1 h2;simp
    have hne:¬ d=e1:=fun h'=>hn.1 (by rw [← h'];exact List.mem_map.2 ⟨(d,t),h,rfl⟩);have:(d == e1)=false:=by simpa using hne
    rw [this];exact ih hn.2 h
  exact this ds hnd hm
 have hlk2:∀ d t,ds.lookup d=some t→(d,t)∈ds:=fun d t hm=>by
  have:∀ L:List (Tmp × TypeId),L.lookup d=some t→(d,t)∈L:=by
   intro L;induction L with
   | nil=>intro h;cases h
   | cons e L ih =>
    obtain⟨e1,e2⟩:=e;intro h;rw [List.lookup_cons] at h;by_cases hd:(d == e1)=true
    ·rw [hd] at h
     simp only [beq_iff_eq] at hd;injection h with h;subst hd h;exact List.mem_cons_self
    have hd':(d == e1)=false:=by simpa using hd
    rw [hd'] at h;exact List.mem_cons_of_mem _ (ih h)
  exact this ds hm
 refine yez n (fun d=>(ds.lookup d).map Z) (ds.map (·.1)) hm hB ⟨?_,?_,?_⟩ hnd ?_ ?_ hQ hQ2 hSk ?_
 ·intro i o hi ho hal
  obtain⟨d,t,hd,ht,_,hmem,hg⟩:=hin i o hi ho hal;exact ⟨hg,d,Z t,hd,by rw [hlk d t hmem];rfl,fun ev w=>hz t (List.mem_map.2 ⟨(d,t),hmem,rfl⟩) ev w o ht⟩
 ·intro i o hi ho hal
  have h1:=hall i hi;simp only [ho,hal,Bool.and_eq_true,Bool.false_eq_true,if_false,List.all_eq_true] at h1;obtain⟨he,hd⟩:=h1;refine ⟨yju he,fun d hs=>?_⟩;rw [Option.isSome_map,Option.isSome_iff_exists] at hs;obtain⟨t,ht⟩:=hs;have:=hd d (List.mem_map.2 ⟨(d,t),hlk2 d t ht,rfl⟩);simp at this;exact ⟨this.1,this.2⟩
 ·intro i j o o' d hi hj ho ho' hal hal' hd hd'
  obtain⟨d1,t1,e1,ht1,f1,m1,_⟩:=hin i o hi ho hal;obtain⟨d2,t2,e2,ht2,f2,m2,_⟩:=hin j o' hj ho' hal';rw [hd] at e1;injection e1 with e1;subst e1;rw [hd'] at e2;injection e2 with e2;subst e2
  -- two places in a list without repetition
  have key:∀ (r:List Nat),r.Nodup→((r.filterMap (yee l.toArray)).map (·.1)).Nodup→i∈r→j∈r→i=j:=by
   intro r;induction r with
   | nil=>intro _ _ h;cases h
   | cons k r ih =>
    intro hn hm hi hj;simp only [List.nodup_cons] at hn;rcases List.mem_cons.1 hi with hi'|hi'<;>rcases List.mem_cons.1 hj with hj'|hj'
    ·rw [hi',hj']
    ·exfalso
     subst hi';rw [List.filterMap_cons,f1] at hm;simp only [List.map_cons,List.nodup_cons] at hm;exact hm.1 (List.mem_map.2 ⟨(d,t2),List.mem_filterMap.2 ⟨j,hj',f2⟩,rfl⟩)
    ·exfalso
     subst hj';rw [List.filterMap_cons,f2] at hm;simp only [List.map_cons,List.nodup_cons] at hm;exact hm.1 (List.mem_map.2 ⟨(d,t1),List.mem_filterMap.2 ⟨i,hi',f1⟩,rfl⟩)
    refine ih hn.2 ?_ hi' hj';rw [List.filterMap_cons] at hm;split at hm
    ·exact hm
    simp only [List.map_cons,List.nodup_cons] at hm;exact hm.2
  exact key (List.range n) List.nodup_range (by rw [hf];exact hnd) (List.mem_range.2 hi) (List.mem_range.2 hj)
 ·intro d
  rw [Option.isSome_map,Option.isSome_iff_exists];constructor
  ·rintro ⟨t,ht⟩;exact List.mem_map.2 ⟨(d,t),hlk2 d t ht,rfl⟩
  intro hd;obtain⟨x,hx,hxe⟩:=List.mem_map.1 hd;exact ⟨x.2,by rw [← hxe];exact hlk x.1 x.2 hx⟩
 ·intro d hd
  obtain⟨x,hx,hxe⟩:=List.mem_map.1 hd;rw [← hf] at hx;obtain⟨i,hi,hal⟩:=List.mem_filterMap.1 hx;rw [List.mem_range] at hi;unfold yee at hal;split at hal
  ·rename_i o ho
   split at hal
   ·rename_i t ht
    split at hal
    ·rename_i d' hd'
     injection hal with hal;refine ⟨i,o,hi,ho,by unfold isAl;rw [ht],?_⟩;rw [hd',← hxe,← hal]
    cases hal
   cases hal
  cases hal
 refine ydU (fun listed a' w' hL=>⟨hL.1,fun p h1 h2 h3 h4=>hL.2 p h1 h2 h3 fun e he=>?_⟩) n _ a _ h;exact h4 e.1 (List.mem_map.2 ⟨e,he,rfl⟩) (Z e.2) (by rw [hlk e.1 e.2 he];rfl)
theorem ycA.later {n:Nat} {L:Array Bool→Act→World→Prop}:∀ {f:Nat} {listed:Array Bool} {a:Act} {w U:World},ycA P md ops Q S n L f listed a w→Keep [] w U→ycA P md ops Q S n L f listed a U
 | 0,_,_,_,_,h,hU=>fun V hV=>h V (hU.tz hV)
 | _+1,_,_,_,_,h,hU=>fun V hV=>h V (hU.tz hV)
theorem heldN_val {n f:Nat} {L:Array Bool→Act→World→Prop} {listed:Array Bool} {a:Act} {w:World} (i:Nat) {o:Oper} {v:Value} (ho:ops[i]? = some o) (hi:i<n) (hf:Region.free md ops listed i=true) (hr:(Region.ready md ops listed).contains i=true)
  (hg:Region.wanted o (yielded ops a.tmps)=true) (hS:S w) (hSk:∀ w U,S w→Keep [] w U→S U) (h1:∀ w,S w→(execOp a.eval o).run P w = .ok (.value v) w)
  (h2:∀ K:Act→Prop,(∀ a,ycA P md ops Q S n L f (listed.setIfInBounds i true) a w→K a)→K (a.put o.dst v)):ycA P md ops Q S n L (f+1) listed a w :=
 fun U hU=>.inl ⟨i,o,v,ho,hi,hf,hr,.inl ⟨hg,h1⟩,hSk _ _ hS hU,(h2 _ (fun _ h=>h)).later hU⟩
theorem jN {n f:Nat} {L:Array Bool→Act→World→Prop} {listed:Array Bool} {a:Act} {w:World} (i:Nat) {o:Oper} {v:Value} (hS:S w) (hSk:∀ w U,S w→Keep [] w U→S U) (h1:∀ w,S w→(execOp a.eval o).run P w = .ok (.value v) w) (h2:∀ K:Act→Prop,(∀ a,ycA P md ops Q S n L f (listed.setIfInBounds i true) a w→K a)→K (a.put o.dst v)) (ho:ops[i]? = some o:=by rfl) (hi:i<n:=by decide) (hf:Region.free md ops listed i=true:=by kernel_rfl) (hr:(Region.ready md ops listed).contains i=true:=by kernel_rfl) (hg:Region.wanted o (yielded ops a.tmps)=true:=by rfl):ycA P md ops Q S n L (f+1) listed a w :=
 heldN_val i ho hi hf hr hg hS hSk h1 h2
theorem heldN_one {n f:Nat} {L:Array Bool→Act→World→Prop} {listed:Array Bool} {a:Act} {w:World} (i:Nat) {o:Oper} (hr:Region.ready md ops listed=[i]) (hi:i<n) (ho:ops[i]? = some o) (hg:Region.wanted o (yielded ops a.tmps)=true)
  (h:∀ U,Keep [] w U→∀ K:Act→World→Prop,(∀ a w',S w'→Keep [] U w'→ycA P md ops Q S n L f (listed.setIfInBounds i true) a w'→K a w')→o.wp P a U K Q):ycA P md ops Q S n L (f+1) listed a w:=by
 intro U hU;refine .inr ⟨by rw [hr];simp,fun j hj=>?_⟩;rw [hr] at hj;obtain rfl:j=i:=by simpa using hj
 refine ⟨hi,?_⟩;unfold wpOp;simp only [ho];rw [if_pos hg];exact .inl (h U hU _ (fun _ _ h1 h2 h3=>⟨h1,h2,h3⟩))
theorem jM {n f:Nat} {L:Array Bool→Act→World→Prop} {listed:Array Bool} {a:Act} {w:World} (i:Nat) {o:Oper} (h:∀ U,Keep [] w U→∀ K:Act→World→Prop,(∀ a w',S w'→Keep [] U w'→ycA P md ops Q S n L f (listed.setIfInBounds i true) a w'→K a w')→o.wp P a U K Q) (hr:Region.ready md ops listed=[i]:=by kernel_rfl) (hi:i<n:=by decide) (ho:ops[i]? = some o:=by rfl) (hg:Region.wanted o (yielded ops a.tmps)=true:=by rfl):ycA P md ops Q S n L (f+1) listed a w :=
 heldN_one i hr hi ho hg h
end
end Go.Proofs.YtejegogbhpmgfaaGreatDoor
