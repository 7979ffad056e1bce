/- Parts of a proof: Vo Mo Mc Mq. -/
import Derived.Test.YtejegogbhpmgfaaGreatDoorE35
import Derived.Test.YtejegogbhpmgfaaGreatDoorE13
import Derived.Test.YtejegogbhpmgfaaGreatDoorE28
import Derived.Test.YtejegogbhpmgfaaGreatDoorE32
import Derived.Test.YtejegogbhpmgfaaGreatDoorE31
set_option linter.unusedVariables false
set_option linter.unusedSimpArgs false
set_option maxRecDepth 100000
set_option maxHeartbeats 8000000
namespace Go.Proofs.YtejegogbhpmgfaaGreatDoor
open Go.RowKit Tryz
section
open Classical
theorem psorted_c (l:List K) (w0 w:World) (sv:Value) (h:OK_ w0 w sv l) (h9:l.length≤1000000000) :
  Calls prog 113 #[sv] w fun e w'=>∃ v,e = .returned v∧KR w' v (ybh l)∧Keep [] w0 w':=by
 have HS:=jX (yfQ l w0 w sv h h9);have HCC:=jX (fun (m:List K) (u:World) (ho:OK_ w0 u sv m) (h:m.length=l.length)=>yhl m w0 u sv ho (by rw [h];exact h9));obtain⟨oo,oc,rfl⟩:=h.form;clear h;go_enter func113,ntmps113
 go_wp2_with fail;refine HS.out.mono ?_;rintro e w1 ⟨rfl,l',hp,hs,ho⟩;dsimp only;have HC:=jX (HCC.out l' w1 ho hp.length_eq);have HF:=jX (ygI hp.symm hs);clear HS HCC hp hs ho;go_wp2_with fail;refine HC.out.mono ?_;rintro e w2 ⟨v,rfl,hv,hk⟩;dsimp only;rw [HF.out] at hv;have HV:=jX hv;have HK:=jX hk;clear HC HF hv hk;go_wp2_with fail;go_ret
 exact ⟨_,rfl,HV.out,HK.out⟩
theorem pends_c (l:List (Iv K)) (w:World) (sv:Value) (hr:IvR w sv l) (h9:l.length≤50000) :
  Calls prog 75 #[sv] w fun e w'=>∃ v,e = .returned v∧KR w' v (ybh (ptsL l))∧Keep [] w w':=by
 have HR:=jX hr;obtain⟨ao,ac,rfl,_⟩:=hr.form;clear hr;go_enter func75,ntmps75
 go_wp2_with fail;go_loopw [3,8] (fun ov c wr=>∃ k:Nat,k≤l.length∧c = .int .i64 (k:Int)∧OK_ w wr ov (ptsL (l.take k))) (fun _ c _=>l.length-(intOf c).toNat)
 case atStart=>exact ⟨0,Nat.zero_le _,rfl,OE.nil w⟩
 case round =>
  obtain⟨k,hk,rfl,hov⟩:=hrel;obtain⟨out,hout⟩:∃ out,ptsL (l.take k)=out:=⟨_,rfl⟩;rw [hout] at hov;have Hlen:=jX (show out.length=2*k by rw [← hout,ybY,List.length_take,Nat.min_eq_left hk])
  have Hout:=jX hout;have HO:=jX hov;obtain⟨oo,oc,rfl⟩:=hov.form;clear hov hout;by_cases hlt:k<l.length
  ·obtain⟨g,o,rfl,hg,hat⟩:=IvR.elem (HR.out.later HO.out.keep) k hlt
   have Hstep:=jX (ygW hlt);generalize l[k]=s at *;obtain⟨p,hp⟩:∃ p,o+k*20=p:=⟨_,rfl⟩;rw [hp] at hat;have HL:=jX (ybE wr g p s hat);clear hat;go_upto_region 4 with (fail)
   refine wp_region_lit ?_;refine' yad (v:=_) (by rfl) (?ha) (fun K hK=>?ka)
   case ha=>(go_simp;try rfl)
   go_simp;refine hK _ _ ?_;clear hK K;refine yad (v:=iv s) (by rfl) (yak _ _ ⟨g,p,none⟩ _ rfl rfl HL.out) (fun K hK=>?_);go_simp;refine hK _ _ ?_;clear hK K;obtain⟨w1,gt,e1,e2,bgt,hgt,_,hk1⟩:=al1 wr (.cells #[.bool false,.string ⟨#[]⟩,.bool false,.string ⟨#[]⟩,.bool false,.string ⟨#[]⟩,.bool false,.string ⟨#[]⟩,.bool false,.bool false,.string ⟨#[]⟩,.bool false,.string ⟨#[]⟩,.bool false,.string ⟨#[]⟩,.bool false,.string ⟨#[]⟩,.bool false,.bool false,.bool false] 49);refine yar (v:=.pointer (some ⟨wr.heap.size,0,none⟩)) (w':=wr.alloc (.cells #[.bool false,.string ⟨#[]⟩,.bool false,.string ⟨#[]⟩,.bool false,.string ⟨#[]⟩,.bool false,.string ⟨#[]⟩,.bool false,.bool false,.string ⟨#[]⟩,.bool false,.string ⟨#[]⟩,.bool false,.string ⟨#[]⟩,.bool false,.string ⟨#[]⟩,.bool false,.bool false,.bool false] 49)) (by rfl) (ygY _ _ _ rfl) (fun K hK=>?_);rw [← e1,e2];clear e1;go_simp;refine hK _ _ ?_;clear hK K;refine yal (by rfl) _ _ _ rfl gt (iC s) rfl rfl _ _ bgt (by exact ycw s) (by rfl) (ycF s) (fun K hK=>?_);obtain⟨w2,e4,b4,k4⟩:=yam (cs:=iC s) bgt;rw [e4];go_simp;refine hK _ _ ?_;clear hK K e4 HL;have HW2:=jX (show Keep [] wr w2 from hk1.trans k4 (by simp;omega))
   have HF:=jX (yap w2 gt 0 _ (yaV b4).frm);have HT:=jX (yap w2 gt (0+9) _ (yaV b4).upto);clear b4 k4 hk1 bgt;go_upto_region 5 with (fail)
   refine wp_region_lit ?_;refine' yad (v:=_) (by rfl) (?hr) (fun K hK=>?kr)
   case hr=>(go_simp;try rfl)
   go_simp;refine hK _ _ ?_;clear hK K;refine' yad (v:=_) (by rfl) (?hs) (fun K hK=>?ks)
   case hs=>(go_simp;try rfl)
   go_simp;refine hK _ _ ?_;clear hK K;refine yad (v:=kv s.f.pt) (by rfl) (yak _ _ ⟨gt,0,none⟩ _ rfl rfl HF.out) (fun K hK=>?_);go_simp;refine hK _ _ ?_;clear hK K;refine' yad (v:=_) (by rfl) (?ht) (fun K hK=>?kt)
   case ht=>(go_simp;try rfl)
   go_simp;refine hK _ _ ?_;clear hK K;refine yad (v:=kv s.l.pt) (by rfl) (yak _ _ ⟨gt,9,none⟩ _ rfl rfl HT.out) (fun K hK=>?_);go_simp;refine hK _ _ ?_;clear hK K;obtain⟨ub,gx,e3,e4,hz1,hkx,hx⟩:=KR.pair s.f.pt s.l.pt w2;refine yar (v:=.slice (some ⟨w2.heap.size,0,none⟩) 2 2) (by rfl) (yaF 56 2 #[(0,.tmp 14),(1,.tmp 16)] #[(0,kv s.f.pt),(1,kv s.l.pt)] _ rfl (by simp only [List.map_toArray,List.map_cons,List.map_nil];rfl) (yiF _ _ _)) (fun K hK=>?_);rw [e3,e4];clear e3;go_simp;refine hK _ _ ?_;clear hK K;obtain⟨v4,u4,hr4,ho4,hn4,_⟩:=KR.app' (ty:=56) (HO.out.later (HW2.out.tz hkx)) (.inr (by simp)) hx (by rw [Hlen.out];simp;omega);refine yar (by rfl) (yav (.tmp 12) (.tmp 17) 56 _ _ _ rfl rfl rfl hr4) (fun K hK=>?_);go_simp;refine hK _ _ ?_;clear hK K hr4 hx hkx;have HN:=jX ho4;obtain⟨no,nc,rfl⟩:=ho4.form;clear ho4 hn4;go_wp2_with fail;go_roundw
   case rel=>exact ⟨k+1,by omega,congrArg (Value.int .i64) (by omega),by rw [Hstep.out,Hout.out];exact HN.out⟩
   case measure=>simp [intOf];omega
  obtain rfl:k=l.length:=by omega
  have hfin:out=ptsL l:=by rw [← Hout.out,List.take_length]
  have HC:=jX (psorted_c out w wr _ HO.out (by rw [hfin,ybY];omega));have Hfin:=jX hfin;clear hfin;go_wp2_with fail;refine HC.out.mono ?_;rintro e w5 ⟨v,rfl,hv,hk5⟩;rw [Hfin.out] at hv;have HV:=jX hv;have HK5:=jX hk5;clear hv hk5 HC;dsimp only;go_wp2_with fail;go_ret
  exact ⟨_,rfl,HV.out,HK5.out⟩
end
section
open Classical
theorem ydT {fn:Func} {p u v:Tmp} {ty:TypeId} (h:fn.results = #[.cell p ty,.tmp u,.tmp v]) (tmps:Array Value) (P:Program) (w:World) :
  (results fn tmps).run P w =
   ((asAddr (tmps.getD p undef)).run P w).andThen fun a w₁=>((loadVar ty a).run P w₁).andThen fun x w₂=>.ok (.tuple #[x,tmps.getD u undef,tmps.getD v undef]) w₂:=by
 simp only [results,h];simp [Sem.run_bind,Result.andThen]
theorem kat0 {w:World} {g k:Nat} {x:Qn} (h:KAt w g (0+k) x):KAt w g k x:=by rw [Nat.zero_add] at h;exact h
def FLPost (S:List K) (w0:World) (L:List (Value × List (Iv K))) (t:K) (is:Bool) (e:Int) (en:Ending) (w':World):Prop:=en = .returned (.tuple #[kv t,.bool is,.int .i64 e])∧MP S w0 w' L
section
variable {S:List K} {w0 w w' W:World} {L M:List (Value × List (Iv K))} {D T E U P:List (Iv K)} {da ta ea ua pa:Option Addr} {dc tc ec uc pc:Nat}
theorem MP.last (h:MP S w0 w L) {m:Nat} (hm:T.length=m+1) (hT:(.slice ta T.length tc,T)∈L):Calls prog 25 #[.agg #[.slice da D.length dc,.slice ta T.length tc]] w (FLPost S w0 L (T[m]'(by omega)).l.pt ((T[m]'(by omega)).l.beh) 0):=by
 obtain⟨g,o,rfl,hg,hat⟩:=IvR.elem (h.get hT) m (by omega);have H0:=jX h;generalize T[m]'(by omega)=i at *;obtain⟨p,hp⟩:∃ p,o+m*20=p:=⟨_,rfl⟩;rw [hp] at hat;have hl2:m<2000:=by have:=h.len hT;omega
 have hwr:IntKind.i64.wrap (m:Int)=(m:Int):=IntWalk.i64_in _ (by omega);have hm0:(0:Int)≤(m:Int):=by omega
 have htn:((m:Int)).toNat=m:=by omega
 have HAT:=jX (fun u (hk:Keep [] w u)=>ybE u g p i (hat.keep (hk.block g hg (by simp))));rw [hm] at *;have Hlt0:(0:Int)<((m+1:Nat):Int):=by omega
 have Hlt:(m:Int)<((m+1:Nat):Int):=by omega
 have hsub:((m+1:Nat):Int)-1=(m:Int):=by omega
 have hne:(((m+1:Nat):Int) == 0)=false:=by rw [beq_eq_false_iff_ne];omega
 have hlt:m<m+1:=by omega
 generalize m+1=n at *;clear h hT hat;go_enter func25,ntmps25
 go_upto_region 1 with (fail)
 obtain⟨W,ga,gb,hW,ega,egb,Bga,Bgb,hga,hgb,hgW,HkW⟩:=al2h w (.cells #[.slice da D.length dc,.slice (some ⟨g,o,none⟩) n tc] 29) (.cells #[.bool false,.string ⟨#[]⟩,.bool false,.string ⟨#[]⟩,.bool false,.string ⟨#[]⟩,.bool false,.string ⟨#[]⟩,.bool false] 36);rw [← hW];try rw [egb]
 try rw [ega]
 clear hW ega egb;have pga:=yaa Bga.out;go_upto_region 3 with (fail)
 refine wp_region_lit ?_;refine' yad (v:=_) (by rfl) (?ha) (fun K hK=>?ka)
 case ha=>(go_simp;try rfl)
 go_simp;refine hK _ _ ?_;clear hK K;refine' yad (v:=_) (by rfl) (?hb) (fun K hK=>?kb)
 case hb=>(go_simp;try rfl)
 go_simp;refine hK _ _ ?_;clear hK K;refine' yad (v:=_) (by rfl) (?hc) (fun K hK=>?kc)
 case hc=>(go_simp;try rfl)
 go_simp;refine hK _ _ ?_;clear hK K;refine' yad (v:=_) (by rfl) (?hd) (fun K hK=>?kd)
 case hd=>(go_simp;try rfl)
 go_simp;refine hK _ _ ?_;clear hK K;refine' yad (v:=_) (by rfl) (?he) (fun K hK=>?ke)
 case he=>(go_simp;try rfl)
 go_simp;refine hK _ _ ?_;clear hK K;refine' yad (v:=_) (by rfl) (?hf) (fun K hK=>?kf)
 case hf=>(go_simp;try rfl)
 go_simp;refine hK _ _ ?_;clear hK K;refine' yad (v:=_) (by rfl) (?hg) (fun K hK=>?kg)
 case hg=>(go_simp;try rfl)
 go_simp;refine hK _ _ ?_;clear hK K;refine yad (v:=iv i) (by rfl) (yak _ _ ⟨g,p,none⟩ _ rfl rfl (HAT.out _ HkW.out)) (fun K hK=>?_);go_simp;refine hK _ _ ?_;clear hK K;obtain⟨w2,gi,e2,e3,b2,hgi,_,hk2⟩:=al1 W (.cells #[.bool false,.string ⟨#[]⟩,.bool false,.string ⟨#[]⟩,.bool false,.string ⟨#[]⟩,.bool false,.string ⟨#[]⟩,.bool false,.bool false,.string ⟨#[]⟩,.bool false,.string ⟨#[]⟩,.bool false,.string ⟨#[]⟩,.bool false,.string ⟨#[]⟩,.bool false,.bool false,.bool false] 49);refine yar (v:=.pointer (some ⟨W.heap.size,0,none⟩)) (w':=W.alloc (.cells #[.bool false,.string ⟨#[]⟩,.bool false,.string ⟨#[]⟩,.bool false,.string ⟨#[]⟩,.bool false,.string ⟨#[]⟩,.bool false,.bool false,.string ⟨#[]⟩,.bool false,.string ⟨#[]⟩,.bool false,.string ⟨#[]⟩,.bool false,.string ⟨#[]⟩,.bool false,.bool false,.bool false] 49)) (by rfl) (ygY _ _ _ rfl) (fun K hK=>?_);rw [← e2,e3];clear e2 e3;go_simp;refine hK _ _ ?_;clear hK K;refine yal (by rfl) _ _ _ rfl gi (iC i) rfl rfl _ _ b2 (by exact ycw i) (by rfl) (ycF i) (fun K hK=>?_);obtain⟨W3,e4,b4,k4⟩:=yam (cs:=iC i) b2;rw [e4];go_simp;refine hK _ _ ?_;clear hK K e4;have HW3:=jX (hk2.trans k4 (by simp;omega));have Bgi:=jX b4;have Bgb:=jX (HW3.out.heap Bgb.out (by simp));have HkW:=jX (HkW.out.tz HW3.out);have hgi2:gi≠gb:=by omega
 clear b2 hk2 b4 k4 pga;go_upto_region 4 with (fail)
 refine yaj (S:=fun u=>Keep [gb] W3 u) 6 (by kernel_rfl) (by kernel_rfl) (fun _ _ d _ _ h=>by cases d<;>exact h) ?_;have hS0:=Keep.drew [gb] W3;have Bu:=jX ((Keep.drew [] W3).heap Bgb.out (by simp));have HkU:=jX (HkW.out.tz (Keep.drew [] W3));generalize World.drew W3=u at *;refine' jV (v:=_) 0 hS0 (fun w hw=>?hf0) (fun K hK=>?kf0)
 case hf0=>(go_simp;try rfl)
 go_simp;refine hK _ ?_;clear hK K;refine jV (v:=.agg (kC i.l.pt)) 1 hS0 (fun w hw=>yak _ _ ⟨gi,9,none⟩ _ rfl rfl (yap _ gi 9 i.l.pt.1 (kat0 (yaV (hw.heap Bgi.out (by simp;exact hgi2))).upto))) (fun K hK=>?_);go_simp;refine hK _ ?_;clear hK K;refine' jV (v:=_) 2 hS0 (fun w hw=>?hf2) (fun K hK=>?kf2)
 case hf2=>(go_simp;try rfl)
 go_simp;refine hK _ ?_;clear hK K;refine' jV (v:=_) 3 hS0 (fun w hw=>?hf3) (fun K hK=>?kf3)
 case hf3=>(have qf:=(yaV (hw.heap Bgi.out (by simp;exact hgi2))).opt;go_simp;try rfl)
 go_simp;refine hK _ ?_;clear hK K;refine' jV (v:=_) 4 hS0 (fun w hw=>?hf4) (fun K hK=>?kf4)
 case hf4=>(go_simp;try rfl)
 go_simp;refine hK _ ?_;clear hK K;refine jO 5 (fun K hK=>?_);refine wp_store_row _ _ _ rfl gb (kC i.l.pt) rfl rfl _ _ Bu.out (by exact k_size) (by rfl) (all_oneCell_toArray (yaG i.l.pt.1)) ?_;obtain⟨W4,e4,b4,k4⟩:=yam (cs:=kC i.l.pt) Bu.out;rw [e4];go_simp;refine hK _ _ (hS0.trans k4 (by simp)) ?_;clear hK K e4;refine ⟨by kernel_rfl,?_⟩;simp only [List.drop_succ_cons,List.drop_zero];have HkZ:=jX (HkU.out.trans k4 (by simp;omega));have HL:=jX (yap W4 gb 0 (i.l.pt).1 (ybP b4));clear b4 k4;go_wp2_with fail;refine bodyPost_ret (v:=.tuple #[kv i.l.pt,.bool i.l.beh,.int .i64 0]) ?_ rfl ⟨rfl,H0.out.move HkZ.out⟩;rw [ydT rfl];change ((loadVar 36 ⟨gb,0,none⟩).run prog W4).andThen _=_;rw [HL.out];rfl
end
end
section
open Classical
theorem yeL {i j r:Iv K} (hr:r.f<r.l) (h:∀ x,(i.has x&&j.has x)=r.has x):yaz 2 [i] [j]=[r]:=by
 refine ygk ⟨hr,trivial⟩ (fun x=>?_);rw [ygK,ygK,ygK,dec2];exact (h x).symm
section
variable {k0 k2 k3 k4 k10 k12:K}
theorem mex_d (h1:k0<k3) (h2:k3<k10) (h3:k10<k12):yaz 2 [⟨⟨k0,false⟩,⟨k10,true⟩⟩] [⟨⟨k3,false⟩,⟨k12,true⟩⟩]=[⟨⟨k3,false⟩,⟨k10,true⟩⟩]:=by
 have a1:(⟨k0,false⟩:Bd K)<⟨k3,false⟩:=Bd.lt_def.2 (.inl h1);have a2:(⟨k3,false⟩:Bd K)<⟨k10,true⟩:=Bd.lt_def.2 (.inl h2);have a3:(⟨k10,true⟩:Bd K)<⟨k12,true⟩:=Bd.lt_def.2 (.inl h3);refine yeL a2 (fun x=>?_);rw [Bool.eq_iff_iff,Bool.and_eq_true,Iv.hI,Iv.hI,Iv.hI];dsimp only;grind
theorem mex_t (h1:k2<k3) (h2:k3<k4) (h3:k4<k12):yaz 2 [⟨⟨k2,false⟩,⟨k4,false⟩⟩] [⟨⟨k3,false⟩,⟨k12,true⟩⟩]=[⟨⟨k3,false⟩,⟨k4,false⟩⟩]:=by
 have a1:(⟨k2,false⟩:Bd K)<⟨k3,false⟩:=Bd.lt_def.2 (.inl h1);have a2:(⟨k3,false⟩:Bd K)<⟨k4,false⟩:=Bd.lt_def.2 (.inl h2);have a3:(⟨k4,false⟩:Bd K)<⟨k12,true⟩:=Bd.lt_def.2 (.inl h3);refine yeL a2 (fun x=>?_);rw [Bool.eq_iff_iff,Bool.and_eq_true,Iv.hI,Iv.hI,Iv.hI];dsimp only;grind
theorem mex_u (h1:k3<k4) (h2:k4<k10):yaz 2 [⟨⟨k3,false⟩,⟨k10,true⟩⟩] [⟨⟨k3,false⟩,⟨k4,false⟩⟩]=[⟨⟨k3,false⟩,⟨k4,false⟩⟩]:=by
 have a1:(⟨k3,false⟩:Bd K)<⟨k4,false⟩:=Bd.lt_def.2 (.inl h1);have a2:(⟨k4,false⟩:Bd K)<⟨k10,true⟩:=Bd.lt_def.2 (.inl h2);refine yeL a1 (fun x=>?_);rw [Bool.eq_iff_iff,Bool.and_eq_true,Iv.hI,Iv.hI];dsimp only;grind
theorem yeO (i:Iv K) (t:K):holds [i] t=i.has ⟨t,false⟩:=by rw [ybR,ygK]
theorem mex_at2 (h1:k2<k4):holds [⟨⟨k2,false⟩,⟨k4,false⟩⟩] k2=true:=by
 have a1:(⟨k2,false⟩:Bd K)<⟨k4,false⟩:=Bd.lt_def.2 (.inl h1);rw [yeO,Iv.hI];dsimp only;grind
theorem mex_at4:holds [⟨⟨k2,false⟩,⟨k4,false⟩⟩] k4=false:=by
 rw [yeO,← Bool.not_eq_true,Iv.hI];dsimp only;grind
theorem mex_in (h1:k0<k2) (h2:k2<k10):holds [⟨⟨k0,false⟩,⟨k10,true⟩⟩] k2=true:=by
 have a1:(⟨k0,false⟩:Bd K)<⟨k2,false⟩:=Bd.lt_def.2 (.inl h1);have a2:(⟨k2,false⟩:Bd K)<⟨k10,true⟩:=Bd.lt_def.2 (.inl h2);rw [yeO,Iv.hI];dsimp only;grind
theorem mex_ends (h1:k0<k2) (h2:k2<k4) (h3:k4<k10):ybh (ptsL ([⟨⟨k0,false⟩,⟨k10,true⟩⟩]++[⟨⟨k2,false⟩,⟨k4,false⟩⟩]))=[k0,k2,k4,k10]:=by
 refine ycp (ydB _) (by simp;grind) (fun z=>?_);rw [ybC];simp [ptsL];grind
end
theorem ends_two (a b:List (Iv K)) {l:List K} (hs:l.Pairwise (· ≤ ·)) (hm:∀ z,z∈l↔z∈ybh (ptsL a)++ybh (ptsL b)):compactS l=ybh (ptsL (a++b)):=by
 refine ycp (yec hs) (ydB _) (fun z=>?_);rw [ycG,hm,ybC,List.mem_append,ybC,ybC];simp [ptsL]
end
section
open Classical
theorem yci (m n:Nat) (hm:m<256) (hn:n<256) (w:World):Calls prog 68 #[.int .i64 (m:Int),.int .i64 (n:Int)] w fun e w'=>e = .returned (iv ⟨⟨kN m hm,false⟩,⟨kN n hn,true⟩⟩)∧Keep [] w w':=by
 have H1:=jX (fun w=>rof_c (m:Int) 1 (by decide) (by omega) (by omega) (by decide) (by decide) w);have H2:=jX (fun w=>rof_c (n:Int) 1 (by decide) (by omega) (by omega) (by decide) (by decide) w);rw [yjp] at H1 H2;have HB1:=jX (yfi (m:Rat) (yfp m hm));have HB2:=jX (yfi (n:Rat) (yfp n hn));rw [show kQ (m:Rat) (yfp m hm)=kN m hm from rfl] at HB1
 rw [show kQ (n:Rat) (yfp n hn)=kN n hn from rfl] at HB2
 have HI:=jX (iv_b01 (kN m hm) (kN n hn));have HS:=jX (ycw ⟨⟨kN m hm,false⟩,⟨kN n hn,true⟩⟩);have HO:=jX (ycF ⟨⟨kN m hm,false⟩,⟨kN n hn,true⟩⟩);have HC:Hid ((iC ⟨⟨kN m hm,false⟩,⟨kN n hn,true⟩⟩).size=20):=rfl;have HL:=jX (fun w g (h:w.heap[g]? = some (.cells (iC ⟨⟨kN m hm,false⟩,⟨kN n hn,true⟩⟩) 49))=>ybE w g 0 _ (yaV h));unfold iv kv at *;unfold rv at *;generalize sgB ((m:Rat)).num=a1 at *;generalize mgS ((m:Rat)).num=a2 at *;generalize dnS ((m:Rat)).den=a3 at *;generalize sgB ((n:Rat)).num=b1 at *;generalize mgS ((n:Rat)).num=b2 at *;generalize dnS ((n:Rat)).den=b3 at *;generalize iC ⟨⟨kN m hm,false⟩,⟨kN n hn,true⟩⟩=I at *;generalize kC (kN m hm)=C1 at *;generalize kC (kN n hn)=C2 at *;go_enter func68,ntmps68
 go_upto_region 1 with (fail)
 obtain⟨W,ga,hW,ega,Bga,hga,hgW,HkW⟩:=al1h w (.cells #[.bool false,.string ⟨#[]⟩,.bool false,.string ⟨#[]⟩,.bool false,.string ⟨#[]⟩,.bool false,.string ⟨#[]⟩,.bool false,.bool false,.string ⟨#[]⟩,.bool false,.string ⟨#[]⟩,.bool false,.string ⟨#[]⟩,.bool false,.string ⟨#[]⟩,.bool false,.bool false,.bool false] 49);rw [← hW];try rw [ega]
 clear hW ega;refine wp_region_lit ?_;refine' yad (v:=_) (by rfl) (?ha) (fun K hK=>?ka)
 case ha=>(go_simp;try rfl)
 go_simp;refine hK _ _ ?_;clear hK K;refine wpList_plain (by rfl) (fun K hK=>?_);refine yae 102 #[.int .i64 (m:Int),.int .i64 1] (by go_simp) ?_;refine (H1.out _).mono ?_;rintro e w1 ⟨rfl,hk_w1⟩;refine ⟨_,rfl,?_⟩;go_simp;refine hK _ _ ?_;clear hK K;refine yad (v:=.agg C1) (by rfl) (yas _ #[(0,.tmp 6)] #[(0,.agg #[.bool a1,.string a2,.bool false,.string a3])] _ rfl (by simp only [List.map_toArray,List.map_cons,List.map_nil];rfl) HB1.out) (fun K hK=>?_);go_simp;refine hK _ _ ?_;clear hK K;refine' yad (v:=_) (by rfl) (?hb) (fun K hK=>?kb)
 case hb=>(go_simp;try rfl)
 go_simp;refine hK _ _ ?_;clear hK K;refine wpList_plain (by rfl) (fun K hK=>?_);refine yae 102 #[.int .i64 (n:Int),.int .i64 1] (by go_simp) ?_;refine (H2.out _).mono ?_;rintro e w2 ⟨rfl,hk_w2⟩;refine ⟨_,rfl,?_⟩;go_simp;refine hK _ _ ?_;clear hK K;refine yad (v:=.agg C2) (by rfl) (yas _ #[(0,.tmp 9)] #[(0,.agg #[.bool b1,.string b2,.bool false,.string b3])] _ rfl (by simp only [List.map_toArray,List.map_cons,List.map_nil];rfl) HB2.out) (fun K hK=>?_);go_simp;refine hK _ _ ?_;clear hK K;refine yad (v:=.agg I) (by rfl) (yas _ #[(0,.tmp 7),(1,.tmp 10)] #[(0,.agg C1),(1,.agg C2)] _ rfl (by simp only [List.map_toArray,List.map_cons,List.map_nil];rfl) HI.out) (fun K hK=>?_);go_simp;refine hK _ _ ?_;clear hK K;have hk:=hk_w1.tz hk_w2;have Bga:=jX (hk.heap Bga.out (by simp));have HkW:=jX (HkW.out.tz hk);clear hk hk_w1 hk_w2;refine yal (by rfl) _ _ _ rfl ga I rfl rfl _ _ Bga.out (by exact HS.out) (by rw [HC.out];rfl) HO.out (fun K hK=>?_);obtain⟨W4,e4,b4,k4⟩:=yam (cs:=I) Bga.out;rw [e4];go_simp;refine hK _ _ ?_;clear hK K;have Hb4:=jX b4;have HkZ:=jX (HkW.out.trans k4 (by simp;omega));clear b4 k4 e4;go_wp2_with fail;refine bodyPost_ret (v:=.agg I) ?_ rfl ⟨rfl,HkZ.out⟩;rw [yag rfl];exact HL.out _ _ Hb4.out
theorem iC_open (f:Bd K) (y:K):(iC ⟨f,⟨y,true⟩⟩).setIfInBounds 19 (.bool true)=iC ⟨f,⟨y,false⟩⟩:=by rfl
section
variable {S:List K} {w0 w w' W:World} {L M:List (Value × List (Iv K))} {D T E U P:List (Iv K)} {da ta ea ua pa:Option Addr} {dc tc ec uc pc:Nat}
theorem MP.mconst1 (h:MP S w0 w L) (hP:(.slice pa P.length pc,P)∈L):Calls prog 58 #[.bool true,.slice pa P.length pc] w (BolPost S w0 L P P):=by
 have H0:=jX h;have hP:=jX hP;clear h;go_enter func58,ntmps58
 go_upto_region 1 with (fail)
 obtain⟨W,ga,hW,ega,Bga,hga,hgW,HkW⟩:=al1h w (.cells #[.slice none 0 0,.slice none 0 0] 29);rw [← hW];try rw [ega]
 clear hW ega;have HM:=jX (H0.out.here.move HkW.out).here;go_wp2_with fail;refine (HM.out.clone (v:=.slice pa P.length pc) (a:=P) (by simp [hP.out])).mono ?_;rintro e w1 ⟨vo_w1,vc_w1,rfl,hm_w1⟩;dsimp only;have HM:=jX hm_w1;clear hm_w1;go_upto_region 2 with (fail)
 obtain⟨w2,gn,e2,e3,bn,hgn,_,hk2⟩:=al1 w1 (.cells #[.slice vo_w1 P.length vc_w1,.slice none 0 0] 29);rw [← e2,e3];clear e2 e3;have Hgn:=jX (Nat.le_trans HM.out.keep.size hgn);have HM:=jX (HM.out.move hk2);have HK5:=jX HM.out.keep;have Bn:=jX bn;clear bn hk2;go_wp2_with fail;refine (HM.out.here.clone (v:=.slice pa P.length pc) (a:=P) (by simp [hP.out])).mono ?_;rintro e w6 ⟨vo_w6,vc_w6,rfl,hm⟩;dsimp only;have Bn:=jX (hm.keep.heap Bn.out (by simp));have HM:=jX (hm.re (HK5.out.tz hm.keep));clear hm HK5;have pgn:=yaa Bn.out;have fgn:=yaf Bn.out;have lgn:=yab Bn.out;go_upto_region 4 with (fail)
 obtain⟨w7,e7,b7,k7⟩:=st2b (y:=.slice vo_w6 P.length vc_w6) Bn.out;rw [← e7];have HM:=jX (HM.out.put Bn.out (by simp) k7 Hgn.out);clear pgn fgn lgn e7 k7 Bn;have pgn:=yaa b7;have Bn:=jX b7;clear b7;have bz:=jX (HM.out.keep.heap Bga.out (by simp));have pga:=yaa bz.out;have fga:=yaf bz.out;have lga:=yab bz.out;go_wp2_with fail;obtain⟨u9,e9,b9,k9⟩:=st2 (x:=.slice vo_w1 P.length vc_w1) (y:=.slice vo_w6 P.length vc_w6) bz.out;rw [← e9];clear e9 pga fga lga;have pga:=yaa b9;refine bodyPost_ret (v:=.agg #[.slice vo_w1 P.length vc_w1,.slice vo_w6 P.length vc_w6]) ?_ rfl ⟨_,_,_,_,rfl,MP.fin H0.out.keep HkW.out HM.out bz.out (by simp) (by omega) k9 ?_⟩
 ·rw [yag rfl];go_simp
 intro p hp;simp only [List.mem_cons] at hp ⊢;grind
theorem MP.one (h:MP S w0 w L) (i:Iv K) (hi:i.f<i.l) (h1:i.f.pt∈S) (h2:i.l.pt∈S):∃ u g,w.alloc (.cells (iC i) 49)=u∧w.heap.size=g∧Keep [] w u∧MP S w0 u ((.slice (some ⟨g,0,none⟩) 1 1,[i]) :: L):=by
 obtain⟨u,g,e1,e2,_,hk,hr⟩:=IvR.single i w;exact ⟨u,g,e1,e2,hk,h.add hk hr ⟨⟨hi,trivial⟩,fun j hj=>by simp at hj;subst hj;exact ⟨h1,h2⟩⟩⟩
end
def exS:List K:=[kN 0 (by decide),kN 2 (by decide),kN 3 (by decide),kN 4 (by decide),kN 10 (by decide),kN 12 (by decide)]
def exD:Iv K:=⟨⟨kN 0 (by decide),false⟩,⟨kN 10 (by decide),true⟩⟩
def exT:Iv K:=⟨⟨kN 2 (by decide),false⟩,⟨kN 4 (by decide),false⟩⟩
theorem yfn {m n:Nat} {hm:m<256} {hn:n<256} {a b:Bool} (h:m<n):(⟨⟨kN m hm,a⟩,⟨kN n hn,b⟩⟩:Iv K).f<(⟨⟨kN m hm,a⟩,⟨kN n hn,b⟩⟩:Iv K).l:=Bd.lt_def.2 (.inl ((yee (hm:=hm) (hn:=hn)).2 h))
theorem example_c (w:World):Calls prog 67 #[] w (BolPost exS w [] [exD] [exT]):=by
 have H1:=jX (yci 2 4 (by decide) (by decide));have H2:=jX (yci 0 10 (by decide) (by decide));rw [show (⟨⟨kN 0 (by decide),false⟩,⟨kN 10 (by decide),true⟩⟩:Iv K)=exD from rfl] at H2
 have H0:=jX (MP.start (S:=exS) (by decide) w);go_enter func67,ntmps67
 go_upto_region 1 with (fail)
 obtain⟨W,ga,hW,ega,Bga,hga,hgW,HkW⟩:=al1h w (.cells #[.slice none 0 0,.slice none 0 0] 29);rw [← hW];try rw [ega]
 clear hW ega;refine wp_region_lit ?_;refine wpList_plain (by rfl) (fun K hK=>?_);refine yae 68 #[.int .i64 2,.int .i64 4] (by go_simp) ?_;refine (H1.out _).mono ?_;rintro e w1 ⟨rfl,hk_w1⟩;refine ⟨_,rfl,?_⟩;go_simp;refine hK _ _ ?_;clear hK K;have Bga:=jX (hk_w1.heap Bga.out (by simp));have HkW:=jX (HkW.out.tz hk_w1);clear hk_w1;obtain⟨w2,gi,e2,e3,b2,hgi,_,hk2⟩:=al1 w1 (.cells #[.bool false,.string ⟨#[]⟩,.bool false,.string ⟨#[]⟩,.bool false,.string ⟨#[]⟩,.bool false,.string ⟨#[]⟩,.bool false,.bool false,.string ⟨#[]⟩,.bool false,.string ⟨#[]⟩,.bool false,.string ⟨#[]⟩,.bool false,.string ⟨#[]⟩,.bool false,.bool false,.bool false] 49);refine yar (v:=.pointer (some ⟨w1.heap.size,0,none⟩)) (w':=w1.alloc (.cells #[.bool false,.string ⟨#[]⟩,.bool false,.string ⟨#[]⟩,.bool false,.string ⟨#[]⟩,.bool false,.string ⟨#[]⟩,.bool false,.bool false,.string ⟨#[]⟩,.bool false,.string ⟨#[]⟩,.bool false,.string ⟨#[]⟩,.bool false,.string ⟨#[]⟩,.bool false,.bool false,.bool false] 49)) (by rfl) (ygY _ _ _ rfl) (fun K hK=>?_);rw [← e2,e3];clear e2 e3;go_simp;refine hK _ _ ?_;clear hK K;refine yal (by rfl) _ _ _ rfl gi (iC ⟨⟨kN 2 (by decide),false⟩,⟨kN 4 (by decide),true⟩⟩) rfl rfl _ _ b2 (by exact ycw _) (by rfl) (ycF _) (fun K hK=>?_);obtain⟨W3,e4,b4,k4⟩:=yam (cs:=iC ⟨⟨kN 2 (by decide),false⟩,⟨kN 4 (by decide),true⟩⟩) b2;rw [e4];go_simp;refine hK _ _ ?_;clear hK K e4;have HW3:=jX (hk2.trans k4 (by simp;omega));have lga:=yab Bga.out;have lw1:=HkW.out.size;have Bga:=jX (HW3.out.heap Bga.out (by simp));have HkW:=jX (HkW.out.tz HW3.out);have c19:W3.cell? ⟨gi,19,none⟩=some (.bool false):=(yaV b4).opt;have fgi:=yaf b4;have lgi:=yab b4;have Bgi:=jX b4;have hgi3:=hgi;clear b2 hk2 b4 k4 hgi;go_upto_region 3 with (fail)
 have bs:=set_same Bgi.out 19 (.bool true);rw [iC_open,show (⟨⟨kN 2 (by decide),false⟩,⟨kN 4 (by decide),false⟩⟩:Iv K)=exT from rfl] at bs
 obtain⟨W5,e5⟩:∃ W5,W3.setCell ⟨gi,19,none⟩ (.bool true)=W5:=⟨_,rfl⟩;have hk5:Keep [gi] W3 W5:=e5 ▸ Keep.setCell [gi] W3 gi 19 _ (by simp);rw [e5] at bs ⊢;have Bgi:=jX bs;have Bga:=jX (hk5.heap Bga.out (by simp;omega));have HkW:=jX (HkW.out.trans hk5 (by simp;omega));clear c19 fgi lgi e5 hk5 bs;have HM:=jX (MP.start (S:=exS) (by decide) W5);refine yaj (S:=fun u=>Keep [] W5 u) 4 (by kernel_rfl) (by kernel_rfl) (fun _ _ d _ _ h=>by cases d<;>exact h) ?_;have hS0:=Keep.drew [] W5;have HM:=jX (HM.out.move hS0);generalize World.drew W5=u at *;refine jV (v:=.agg (iC exT)) 2 hS0 (fun w hw=>yak _ _ ⟨gi,0,none⟩ _ rfl rfl (ybE _ gi 0 exT (yaV (hw.heap Bgi.out (by simp))))) (fun K hK=>?_);go_simp;refine hK _ ?_;clear hK K;refine yaq 0 3 (by kernel_rfl) (by decide) (by decide) (by rfl) (by rfl) (by rfl) (by rfl) (fun K hK=>?_) (fun K hK=>?_)
 ·skip
  refine yae 68 #[.int .i64 0,.int .i64 10] (by go_simp) ?_;refine (H2.out _).mono ?_;rintro e u1 ⟨rfl,hk1⟩;have HM:=jX (HM.out.move hk1);have hS0:=hS0.tz hk1;clear hk1;refine ⟨_,rfl,?_⟩;go_simp;refine hK _ _ hS0 ?_;clear hK K;refine yaq 1 3 (by kernel_rfl) (by decide) (by decide) (by rfl) (by rfl) (by rfl) (by rfl) (fun K hK=>?_) (fun K hK=>?_)
  ·skip
   refine yaE (.slice (some ⟨(u1).heap.size,0,none⟩) 1 1) ((u1).alloc (.cells (iC exD) 49)) (yaF 27 1 #[(0,.tmp 4)] #[(0,iv exD)] _ rfl (by simp only [List.map_toArray,List.map_cons,List.map_nil];rfl) (ybp _ _)) ?_;obtain⟨u2,g_u2,e2,e3,hk2,hm2⟩:=HM.out.one exD (yfn (by decide)) (by simp [exS,exD]) (by simp [exS,exD]);rw [e2,e3];clear e2 e3;have HM:=jX hm2;have hS0:=hS0.tz hk2;clear hm2 hk2;go_simp;refine hK _ _ hS0 ?_;clear hK K;refine jO 3 (fun K hK=>?_);refine yaE (.slice (some ⟨(u2).heap.size,0,none⟩) 1 1) ((u2).alloc (.cells (iC exT) 49)) (yaF 27 1 #[(0,.tmp 6)] #[(0,iv exT)] _ rfl (by simp only [List.map_toArray,List.map_cons,List.map_nil];rfl) (ybp _ _)) ?_;obtain⟨u3,g_u3,e2,e3,hk2,hm2⟩:=HM.out.one exT (yfn (by decide)) (by simp [exS,exT]) (by simp [exS,exT]);rw [e2,e3];clear e2 e3;have HM:=jX hm2;have hS0:=hS0.tz hk2;clear hm2 hk2;go_simp;refine hK _ _ hS0 ?_;clear hK K;refine ⟨by kernel_rfl,?_⟩;simp only [List.drop_succ_cons,List.drop_zero];have bz:=jX (HM.out.keep.heap Bga.out (by simp));have pga:=yaa bz.out;have fga:=yaf bz.out;have lga:=yab bz.out;go_wp2_with fail;obtain⟨u9,e9,b9,k9⟩:=st2 (x:=.slice (some ⟨g_u2,0,none⟩) 1 1) (y:=.slice (some ⟨g_u3,0,none⟩) 1 1) bz.out;rw [← e9];clear e9 pga fga lga;have pga:=yaa b9;refine bodyPost_ret (v:=.agg #[.slice (some ⟨g_u2,0,none⟩) 1 1,.slice (some ⟨g_u3,0,none⟩) 1 1]) ?_ rfl ⟨_,_,_,_,rfl,MP.fin H0.out.keep HkW.out HM.out bz.out (by simp) (by omega) k9 ?_⟩
   ·rw [yag rfl];go_simp
   intro p hp;simp only [List.mem_cons] at hp ⊢;grind
  skip
  refine yaE (.slice (some ⟨(u1).heap.size,0,none⟩) 1 1) ((u1).alloc (.cells (iC exT) 49)) (yaF 27 1 #[(0,.tmp 6)] #[(0,iv exT)] _ rfl (by simp only [List.map_toArray,List.map_cons,List.map_nil];rfl) (ybp _ _)) ?_;obtain⟨u2,g_u2,e2,e3,hk2,hm2⟩:=HM.out.one exT (yfn (by decide)) (by simp [exS,exT]) (by simp [exS,exT]);rw [e2,e3];clear e2 e3;have HM:=jX hm2;have hS0:=hS0.tz hk2;clear hm2 hk2;go_simp;refine hK _ _ hS0 ?_;clear hK K;refine jO 1 (fun K hK=>?_);refine yaE (.slice (some ⟨(u2).heap.size,0,none⟩) 1 1) ((u2).alloc (.cells (iC exD) 49)) (yaF 27 1 #[(0,.tmp 4)] #[(0,iv exD)] _ rfl (by simp only [List.map_toArray,List.map_cons,List.map_nil];rfl) (ybp _ _)) ?_;obtain⟨u3,g_u3,e2,e3,hk2,hm2⟩:=HM.out.one exD (yfn (by decide)) (by simp [exS,exD]) (by simp [exS,exD]);rw [e2,e3];clear e2 e3;have HM:=jX hm2;have hS0:=hS0.tz hk2;clear hm2 hk2;go_simp;refine hK _ _ hS0 ?_;clear hK K;refine ⟨by kernel_rfl,?_⟩;simp only [List.drop_succ_cons,List.drop_zero];have bz:=jX (HM.out.keep.heap Bga.out (by simp));have pga:=yaa bz.out;have fga:=yaf bz.out;have lga:=yab bz.out;go_wp2_with fail;obtain⟨u9,e9,b9,k9⟩:=st2 (x:=.slice (some ⟨g_u3,0,none⟩) 1 1) (y:=.slice (some ⟨g_u2,0,none⟩) 1 1) bz.out;rw [← e9];clear e9 pga fga lga;have pga:=yaa b9;refine bodyPost_ret (v:=.agg #[.slice (some ⟨g_u3,0,none⟩) 1 1,.slice (some ⟨g_u2,0,none⟩) 1 1]) ?_ rfl ⟨_,_,_,_,rfl,MP.fin H0.out.keep HkW.out HM.out bz.out (by simp) (by omega) k9 ?_⟩
  ·rw [yag rfl];go_simp
  intro p hp;simp only [List.mem_cons] at hp ⊢;grind
 skip
 refine yaE (.slice (some ⟨(u).heap.size,0,none⟩) 1 1) ((u).alloc (.cells (iC exT) 49)) (yaF 27 1 #[(0,.tmp 6)] #[(0,iv exT)] _ rfl (by simp only [List.map_toArray,List.map_cons,List.map_nil];rfl) (ybp _ _)) ?_;obtain⟨u1,g_u1,e2,e3,hk2,hm2⟩:=HM.out.one exT (yfn (by decide)) (by simp [exS,exT]) (by simp [exS,exT]);rw [e2,e3];clear e2 e3;have HM:=jX hm2;have hS0:=hS0.tz hk2;clear hm2 hk2;go_simp;refine hK _ _ hS0 ?_;clear hK K;refine jO 0 (fun K hK=>?_);refine yae 68 #[.int .i64 0,.int .i64 10] (by go_simp) ?_;refine (H2.out _).mono ?_;rintro e u2 ⟨rfl,hk1⟩;have HM:=jX (HM.out.move hk1);have hS0:=hS0.tz hk1;clear hk1;refine ⟨_,rfl,?_⟩;go_simp;refine hK _ _ hS0 ?_;clear hK K;refine jO 1 (fun K hK=>?_);refine yaE (.slice (some ⟨(u2).heap.size,0,none⟩) 1 1) ((u2).alloc (.cells (iC exD) 49)) (yaF 27 1 #[(0,.tmp 4)] #[(0,iv exD)] _ rfl (by simp only [List.map_toArray,List.map_cons,List.map_nil];rfl) (ybp _ _)) ?_;obtain⟨u3,g_u3,e2,e3,hk2,hm2⟩:=HM.out.one exD (yfn (by decide)) (by simp [exS,exD]) (by simp [exS,exD]);rw [e2,e3];clear e2 e3;have HM:=jX hm2;have hS0:=hS0.tz hk2;clear hm2 hk2;go_simp;refine hK _ _ hS0 ?_;clear hK K;refine ⟨by kernel_rfl,?_⟩;simp only [List.drop_succ_cons,List.drop_zero];have bz:=jX (HM.out.keep.heap Bga.out (by simp));have pga:=yaa bz.out;have fga:=yaf bz.out;have lga:=yab bz.out;go_wp2_with fail;obtain⟨u9,e9,b9,k9⟩:=st2 (x:=.slice (some ⟨g_u3,0,none⟩) 1 1) (y:=.slice (some ⟨g_u1,0,none⟩) 1 1) bz.out;rw [← e9];clear e9 pga fga lga;have pga:=yaa b9;refine bodyPost_ret (v:=.agg #[.slice (some ⟨g_u3,0,none⟩) 1 1,.slice (some ⟨g_u1,0,none⟩) 1 1]) ?_ rfl ⟨_,_,_,_,rfl,MP.fin H0.out.keep HkW.out HM.out bz.out (by simp) (by omega) k9 ?_⟩
 ·rw [yag rfl];go_simp
 intro p hp;simp only [List.mem_cons] at hp ⊢;grind
end
end Go.Proofs.YtejegogbhpmgfaaGreatDoor
