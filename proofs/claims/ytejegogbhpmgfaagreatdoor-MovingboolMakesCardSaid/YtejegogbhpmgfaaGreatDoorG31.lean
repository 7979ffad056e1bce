/- Parts of a proof: Td Te. -/
import Derived.Test.YtejegogbhpmgfaaGreatDoorG16
import Derived.Test.YtejegogbhpmgfaaGreatDoorG30
set_option linter.unusedVariables false
set_option linter.unusedSimpArgs false
set_option maxRecDepth 100000
set_option maxHeartbeats 8000000
namespace Go.Proofs.YtejegogbhpmgfaaGreatDoor
open Go.RowKit Tryz
section
open Classical
theorem sorted_c (l:List K) (w:World) (sv:Value) (hr:KR w sv l) (h9:l.length≤100000) :
  Calls prog 123 #[sv] w fun e w'=>∃ v,e = .returned v∧KR w' v (ybf l)∧Keep [] w w':=by
 have HR:=jX hr;have HCM:=jX (fun x y w=>yfa x y w);obtain⟨ao,ac,rfl,_⟩:=hr.form;clear hr;go_enter func123,ntmps123
 go_wp2_with fail;go_loopw [3,4] (fun ov c wr=>∃ i:Nat,i≤l.length∧c = .int .i64 (i:Int)∧KR wr ov (ybf (l.take i))∧Keep [] w wr) (fun _ c _=>l.length-(intOf c).toNat)
 case atStart=>exact ⟨0,Nat.zero_le _,rfl,RowE.nil w,Keep.refl _ _⟩
 case round =>
  obtain⟨i,hi,rfl,hov,hkeep⟩:=hrel;rename World=>wo;have HO:=jX hov;have HKr:=jX hkeep;obtain⟨oo,oc,rfl,_⟩:=hov.form;clear hov hkeep;have hm9:(ybf (l.take i)).length≤100000:=by have:=ydM (l.take i);rw [List.length_take] at this;omega
  by_cases hlt:i<l.length
  ·have Hstep:=jX (yjJ hlt)
   obtain⟨g,o,rfl,hg,hat⟩:=KR.elem (HR.out.later HKr.out) i hlt;obtain⟨x,hx⟩:∃ x,l[i]=x:=⟨_,rfl⟩;rw [hx] at hat Hstep;clear hx;generalize ybf (l.take i)=out at *;obtain⟨p,hp⟩:∃ p,o+i*9=p:=⟨_,rfl⟩;rw [hp] at hat;have Hat:=jX hat;clear hat;go_wp2_with fail;go_loopw [5] (fun c wq=>∃ k:Nat,k≤out.length∧c = .int .i64 (k:Int)∧(∀ j (h:j<out.length),j<k→out[j]<x)∧Keep [] wo wq) (fun c _=>out.length-(intOf c).toNat)
   case atStart=>exact ⟨0,Nat.zero_le _,rfl,fun j _ h=>absurd h (by omega),Keep.refl _ _⟩
   case round =>
    obtain⟨k,hk,rfl,hall,hkq⟩:=hrel;have Hall:=jX hall;have HKq:=jX hkq;clear hall hkq;by_cases hkm:k<out.length
    ·obtain⟨g2,o2,rfl,hg2,hat2⟩:=KR.elem HO.out k hkm
     obtain⟨y,hy⟩:∃ y,out[k]=y:=⟨_,rfl⟩;rw [hy] at hat2;have Hy:=jX hy;clear hy;obtain⟨p2,hp2⟩:∃ p2,o2+k*9=p2:=⟨_,rfl⟩;rw [hp2] at hat2;have Hat2:=jX hat2;have ha:=yeW y x;have H1:=jX (HCM.out y x);have Htri:=jX (K.tri y x);generalize cmpQ y.1 x.1=a at *;clear hat2;rcases ha with rfl|rfl|rfl
     ·go_wp2_with fail
      have HLx:=jX ((Hat.out.keep' ((HKq.out).block g hg (by simp))).ld (Nat.lt_of_lt_of_le hg (HKq.out).size));have HLy:=jX ((Hat2.out.keep' ((HKq.out).block g2 hg2 (by simp))).ld (Nat.lt_of_lt_of_le hg2 (HKq.out).size));have Q1:Hid (∀ m:KW wr,Calls prog 38 #[.agg (kC y),.agg (kC x)] (Wk wr m) fun e w'=>e = .returned (.int .i64 (-1))∧∃ m,w'=Wk wr m):=fun m=>qk m (H1.out _);refine yac (by kernel_rfl) (by kernel_rfl) ?_
      repeat (first
       | go_big_quiet_skip
       | (go_big_quiet_want;first
        | (refine yai _ _ _ (.agg (kC x)) rfl rfl (by rintro _ ⟨m,rfl⟩;exact HLx.out m) ?_;go_simp;go_big_quiet_on)|(refine yai _ _ _ (.agg (kC y)) rfl rfl (by rintro _ ⟨m,rfl⟩;exact HLy.out m) ?_;go_simp;go_big_quiet_on)
        | (go_big_quiet_op;go_simp;go_big_quiet_on)
        | (go_big_quiet_op;go_big_quiet_call (first
         | (go_at_call 38;with_reducible exact (Q1).out _)))))
      refine wpQuiet_nil ?_;rintro w1 ⟨⟨_,hk_w1⟩,rfl⟩;clear HLx HLy Q1;have Hk1:=jX (HKq.out.tz hk_w1);clear hk_w1;go_wp2_with fail;go_roundw
      case rel =>
       refine ⟨k+1,by omega,congrArg (Value.int .i64) (by omega),fun j h hj=>?_,Hk1.out⟩;by_cases hjk:j=k
       ·subst hjk
        rw [Hy.out];rcases Htri.out with ⟨h,_⟩|⟨_,h⟩|⟨h,_⟩
        ·exact absurd h (by decide)
        ·exact h
        exact absurd h (by decide)
       exact Hall.out j h (by omega)
      case measure=>simp [intOf];omega
     ·go_wp2_with fail
      have HLx:=jX ((Hat.out.keep' ((HKq.out).block g hg (by simp))).ld (Nat.lt_of_lt_of_le hg (HKq.out).size));have HLy:=jX ((Hat2.out.keep' ((HKq.out).block g2 hg2 (by simp))).ld (Nat.lt_of_lt_of_le hg2 (HKq.out).size));have Q1:Hid (∀ m:KW wr,Calls prog 38 #[.agg (kC y),.agg (kC x)] (Wk wr m) fun e w'=>e = .returned (.int .i64 (0))∧∃ m,w'=Wk wr m):=fun m=>qk m (H1.out _);refine yac (by kernel_rfl) (by kernel_rfl) ?_
      repeat (first
       | go_big_quiet_skip
       | (go_big_quiet_want;first
        | (refine yai _ _ _ (.agg (kC x)) rfl rfl (by rintro _ ⟨m,rfl⟩;exact HLx.out m) ?_;go_simp;go_big_quiet_on)|(refine yai _ _ _ (.agg (kC y)) rfl rfl (by rintro _ ⟨m,rfl⟩;exact HLy.out m) ?_;go_simp;go_big_quiet_on)
        | (go_big_quiet_op;go_simp;go_big_quiet_on)
        | (go_big_quiet_op;go_big_quiet_call (first
         | (go_at_call 38;with_reducible exact (Q1).out _)))))
      refine wpQuiet_nil ?_;rintro w1 ⟨⟨_,hk_w1⟩,rfl⟩;clear HLx HLy Q1;have Hk1:=jX (HKq.out.tz hk_w1);clear hk_w1;go_wp2_with fail;have HLx:=jX ((Hat.out.keep' ((Hk1.out).block g hg (by simp))).ld (Nat.lt_of_lt_of_le hg (Hk1.out).size));have HLy:=jX ((Hat2.out.keep' ((Hk1.out).block g2 hg2 (by simp))).ld (Nat.lt_of_lt_of_le hg2 (Hk1.out).size));have Q1:Hid (∀ m:KW w1,Calls prog 38 #[.agg (kC y),.agg (kC x)] (Wk w1 m) fun e w'=>e = .returned (.int .i64 (0))∧∃ m,w'=Wk w1 m):=fun m=>qk m (H1.out _);refine yac (by kernel_rfl) (by kernel_rfl) ?_
      repeat (first
       | go_big_quiet_skip
       | (go_big_quiet_want;first
        | (refine yai _ _ _ (.agg (kC x)) rfl rfl (by rintro _ ⟨m,rfl⟩;exact HLx.out m) ?_;go_simp;go_big_quiet_on)|(refine yai _ _ _ (.agg (kC y)) rfl rfl (by rintro _ ⟨m,rfl⟩;exact HLy.out m) ?_;go_simp;go_big_quiet_on)
        | (go_big_quiet_op;go_simp;go_big_quiet_on)
        | (go_big_quiet_op;go_big_quiet_call (first
         | (go_at_call 38;with_reducible exact (Q1).out _)))))
      refine wpQuiet_nil ?_;rintro w2 ⟨⟨_,hk_w2⟩,rfl⟩;clear HLx HLy Q1;have Hk2:=jX (Hk1.out.tz hk_w2);clear hk_w2;go_wp2_with fail
      have hins:insS x out=out:=by
       refine (yhY out k hk Hall.out).1 hkm ?_;rw [Hy.out];rcases Htri.out with ⟨h,_⟩|⟨h,_⟩|⟨_,h⟩
       ·exact absurd h (by decide)
       ·exact absurd h (by decide)
       exact h
      go_roundw
      case rel=>exact ⟨i+1,by omega,congrArg (Value.int .i64) (by omega),by rw [Hstep.out,hins];exact HO.out.later Hk2.out,HKr.out.tz Hk2.out⟩
      case measure=>simp [intOf];omega
     go_wp2_with fail;have HLx:=jX ((Hat.out.keep' ((HKq.out).block g hg (by simp))).ld (Nat.lt_of_lt_of_le hg (HKq.out).size));have HLy:=jX ((Hat2.out.keep' ((HKq.out).block g2 hg2 (by simp))).ld (Nat.lt_of_lt_of_le hg2 (HKq.out).size));have Q1:Hid (∀ m:KW wr,Calls prog 38 #[.agg (kC y),.agg (kC x)] (Wk wr m) fun e w'=>e = .returned (.int .i64 (1))∧∃ m,w'=Wk wr m):=fun m=>qk m (H1.out _);refine yac (by kernel_rfl) (by kernel_rfl) ?_
     repeat (first
      | go_big_quiet_skip
      | (go_big_quiet_want;first
       | (refine yai _ _ _ (.agg (kC x)) rfl rfl (by rintro _ ⟨m,rfl⟩;exact HLx.out m) ?_;go_simp;go_big_quiet_on)|(refine yai _ _ _ (.agg (kC y)) rfl rfl (by rintro _ ⟨m,rfl⟩;exact HLy.out m) ?_;go_simp;go_big_quiet_on)
       | (go_big_quiet_op;go_simp;go_big_quiet_on)
       | (go_big_quiet_op;go_big_quiet_call (first
        | (go_at_call 38;with_reducible exact (Q1).out _)))))
     refine wpQuiet_nil ?_;rintro w1 ⟨⟨_,hk_w1⟩,rfl⟩;clear HLx HLy Q1;have Hk1:=jX (HKq.out.tz hk_w1);clear hk_w1;go_wp2_with fail;have HLx:=jX ((Hat.out.keep' ((Hk1.out).block g hg (by simp))).ld (Nat.lt_of_lt_of_le hg (Hk1.out).size));have HLy:=jX ((Hat2.out.keep' ((Hk1.out).block g2 hg2 (by simp))).ld (Nat.lt_of_lt_of_le hg2 (Hk1.out).size));have Q1:Hid (∀ m:KW w1,Calls prog 38 #[.agg (kC y),.agg (kC x)] (Wk w1 m) fun e w'=>e = .returned (.int .i64 (1))∧∃ m,w'=Wk w1 m):=fun m=>qk m (H1.out _);refine yac (by kernel_rfl) (by kernel_rfl) ?_
     repeat (first
      | go_big_quiet_skip
      | (go_big_quiet_want;first
       | (refine yai _ _ _ (.agg (kC x)) rfl rfl (by rintro _ ⟨m,rfl⟩;exact HLx.out m) ?_;go_simp;go_big_quiet_on)|(refine yai _ _ _ (.agg (kC y)) rfl rfl (by rintro _ ⟨m,rfl⟩;exact HLy.out m) ?_;go_simp;go_big_quiet_on)
       | (go_big_quiet_op;go_simp;go_big_quiet_on)
       | (go_big_quiet_op;go_big_quiet_call (first
        | (go_at_call 38;with_reducible exact (Q1).out _)))))
     refine wpQuiet_nil ?_;rintro w2 ⟨⟨_,hk_w2⟩,rfl⟩;clear HLx HLy Q1;have Hk2:=jX (Hk1.out.tz hk_w2);clear hk_w2;go_wp2_with fail
     have Hins:Hid (insS x out=out.take k++x :: out.drop k):=by
      refine (yhY out k hk Hall.out).2 (.inr ⟨hkm,?_⟩);rw [Hy.out];rcases Htri.out with ⟨_,h⟩|⟨h,_⟩|⟨h,_⟩
      ·exact h
      ·exact absurd h (by decide)
      exact absurd h (by decide)
     refine yaj (S:=fun u=>Keep [] w2 u) 15 (by kernel_rfl) (by kernel_rfl) (fun _ _ d _ _ h=>by cases d<;>exact h) ?_;have hS0:=Keep.drew [] w2;obtain⟨v1,hs1,hr1⟩:=yfG _ out _ (HO.out.later (Hk2.out)) k hk (by omega);obtain⟨v2,hs2,hr2⟩:=yfF _ out _ (HO.out.later (Hk2.out)) k hk (by omega);generalize World.drew w2=u at *;have HR1:=jX (fun w' (h:Keep [] w2 w')=>hr1.later h);have HR2:=jX (fun w' (h:Keep [] w2 w')=>hr2.later h);have HKV:=jX (Hk2.out);have HS1:=jX hs1;have HS2:=jX hs2;have HLx:=jX (fun w (hw:Keep [] w2 w)=>yat w g p x.1 (Hat.out.keep' (((Hk2.out).tz hw).block g hg (by simp))));clear hr1 hr2 hs1 hs2;refine' jV (v:=_) 1 hS0 (fun w hw=>?hc1) (fun K hK=>?kc1)
     case hc1=>(go_simp;try rfl)
     go_simp;refine hK _ ?_;clear hK K;refine' jV (v:=_) 2 hS0 (fun w hw=>?hc2) (fun K hK=>?kc2)
     case hc2=>(go_simp;try rfl)
     go_simp;refine hK _ ?_;clear hK K;refine jV (v:=v1) 3 hS0 (fun w hw=>ycW _ _ _ _ _ _ _ _ _ _ rfl rfl rfl rfl rfl (HS1.out _)) (fun K hK=>?_);go_simp;refine hK _ ?_;clear hK K;refine' jV (v:=_) 5 hS0 (fun w hw=>?hc5) (fun K hK=>?kc5)
     case hc5=>(go_simp;try rfl)
     go_simp;refine hK _ ?_;clear hK K;refine' jV (v:=_) 6 hS0 (fun w hw=>?hc6) (fun K hK=>?kc6)
     case hc6=>(go_simp;try rfl)
     go_simp;refine hK _ ?_;clear hK K;refine' jV (v:=_) 7 hS0 (fun w hw=>?hc7) (fun K hK=>?kc7)
     case hc7=>(go_simp;try rfl)
     go_simp;refine hK _ ?_;clear hK K;refine jV (v:=kv x) 8 hS0 (fun w hw=>yak _ _ ⟨g,p,none⟩ _ rfl rfl (HLx.out _ hw)) (fun K hK=>?_);go_simp;refine hK _ ?_;clear hK K;refine' jV (v:=_) 11 hS0 (fun w hw=>?hc11) (fun K hK=>?kc11)
     case hc11=>(go_simp;try rfl)
     go_simp;refine hK _ ?_;clear hK K;refine' jV (v:=_) 12 hS0 (fun w hw=>?hc12) (fun K hK=>?kc12)
     case hc12=>(go_simp;try rfl)
     go_simp;refine hK _ ?_;clear hK K;refine jV (v:=v2) 13 hS0 (fun w hw=>ycW _ _ _ _ _ _ _ _ _ _ rfl rfl rfl rfl rfl (HS2.out _)) (fun K hK=>?_);go_simp;refine hK _ ?_;clear hK K;refine yap 0 9 (by kernel_rfl) (by decide) (by decide) (by rfl) (by rfl) (by rfl) (by rfl) (fun K hK=>?_) (fun K hK=>?_)
     ·skip
      obtain⟨ua,g0,e1,e2,hz0,ho⟩:=OK_.start u;refine yaF _ _ (yaE 56 0 #[] #[] _ rfl (by simp) (yen _)) ?_;rw [e1,e2];clear e1;go_simp;have HSc:=jX hS0;have hS0:=hS0.tz ho.keep;refine hK _ _ hS0 ?_;clear hK K;refine yap 4 9 (by kernel_rfl) (by decide) (by decide) (by rfl) (by rfl) (by rfl) (by rfl) (fun K hK=>?_) (fun K hK=>?_)
      ·skip
       obtain⟨v4,u4,hr4,ho4,hn4,hK4⟩:=KR.app (ty:=56) (ho) (by simp [Value.ownBlock]) (HR1.out _ hS0) (by rw [List.length_take];simp;omega);refine yaF _ _ (yas (.tmp 46) (.tmp 49) 56 _ _ _ rfl rfl rfl hr4) ?_;go_simp;clear hr4;have hS0:=HSc.out.tz ho4.keep;refine hK _ _ hS0 ?_;clear hK K;refine jO 9 (fun K hK=>?_);obtain⟨ub,gx,e3,e4,hz1,hkx,hx⟩:=KR.single x u4;refine yaF _ _ (yaE 56 1 #[(0,.tmp 54)] #[(0,kv x)] _ rfl (by simp only [List.map_toArray,List.map_cons,List.map_nil];rfl) (ycZ x _)) ?_;rw [e3,e4];clear e3;go_simp;have hS0:=hS0.tz hkx;refine hK _ _ hS0 ?_;clear hK K;refine jO 10 (fun K hK=>?_);obtain⟨v10,u10,hr10,ho10,hn10,_⟩:=KR.app (ty:=56) (ho4.later hkx) hn4 (hx) (by rw [List.nil_append,List.length_take];simp;omega);refine yaF _ _ (yas (.tmp 50) (.tmp 55) 56 _ _ _ rfl rfl rfl hr10) ?_;go_simp;clear hr10;have hS0:=HSc.out.tz ho10.keep;refine hK _ _ hS0 ?_;clear hK K;refine jO 14 (fun K hK=>?_);obtain⟨v14,u14,hr14,ho14,_,_⟩:=KR.app (ty:=56) ho10 hn10 (HR2.out _ hS0) (by rw [List.length_append,List.nil_append,List.length_take,List.length_drop];simp;omega);refine yaF _ _ (yas (.tmp 56) (.tmp 59) 56 _ _ _ rfl rfl rfl hr14) ?_;go_simp;clear hr14;have hS0:=HSc.out.tz ho14.keep;refine hK _ _ hS0 ?_;clear hK K;refine ⟨by kernel_rfl,?_⟩;simp only [List.drop_succ_cons,List.drop_zero];have HNew:=jX ho14.read;have HKn:=jX (HKV.out.tz hS0);clear ho14 ho10 hS0;go_wp2_with fail;go_roundw
       case rel =>
        refine ⟨i+1,by omega,congrArg (Value.int .i64) (by omega),?_,HKr.out.tz HKn.out⟩;rw [Hstep.out,Hins.out];have:=HNew.out
        simpa using this
       case measure=>simp [intOf];omega
      skip
      obtain⟨ub,gx,e3,e4,hz1,hkx,hx⟩:=KR.single x ua;refine yaF _ _ (yaE 56 1 #[(0,.tmp 54)] #[(0,kv x)] _ rfl (by simp only [List.map_toArray,List.map_cons,List.map_nil];rfl) (ycZ x _)) ?_;rw [e3,e4];clear e3;go_simp;have hS0:=hS0.tz hkx;refine hK _ _ hS0 ?_;clear hK K;refine jO 4 (fun K hK=>?_);obtain⟨v4,u4,hr4,ho4,hn4,hK4⟩:=KR.app (ty:=56) (ho.later hkx) (by simp [Value.ownBlock]) (HR1.out _ hS0) (by rw [List.length_take];simp;omega);refine yaF _ _ (yas (.tmp 46) (.tmp 49) 56 _ _ _ rfl rfl rfl hr4) ?_;go_simp;clear hr4;have hS0:=HSc.out.tz ho4.keep;refine hK _ _ hS0 ?_;clear hK K;refine jO 10 (fun K hK=>?_);obtain⟨v10,u10,hr10,ho10,hn10,_⟩:=KR.app (ty:=56) (ho4) hn4 (hx.keepF (hK4 [g0] (fun g hg=>by simp [Value.ownBlock] at hg;simp [hg])) (by simp;omega)) (by rw [List.nil_append,List.length_take];simp;omega);refine yaF _ _ (yas (.tmp 50) (.tmp 55) 56 _ _ _ rfl rfl rfl hr10) ?_;go_simp;clear hr10;have hS0:=HSc.out.tz ho10.keep;refine hK _ _ hS0 ?_;clear hK K;refine jO 14 (fun K hK=>?_);obtain⟨v14,u14,hr14,ho14,_,_⟩:=KR.app (ty:=56) ho10 hn10 (HR2.out _ hS0) (by rw [List.length_append,List.nil_append,List.length_take,List.length_drop];simp;omega);refine yaF _ _ (yas (.tmp 56) (.tmp 59) 56 _ _ _ rfl rfl rfl hr14) ?_;go_simp;clear hr14;have hS0:=HSc.out.tz ho14.keep;refine hK _ _ hS0 ?_;clear hK K;refine ⟨by kernel_rfl,?_⟩;simp only [List.drop_succ_cons,List.drop_zero];have HNew:=jX ho14.read;have HKn:=jX (HKV.out.tz hS0);clear ho14 ho10 hS0;go_wp2_with fail;go_roundw
      case rel =>
       refine ⟨i+1,by omega,congrArg (Value.int .i64) (by omega),?_,HKr.out.tz HKn.out⟩;rw [Hstep.out,Hins.out];have:=HNew.out
       simpa using this
      case measure=>simp [intOf];omega
     skip
     obtain⟨ub,gx,e3,e4,hz1,hkx,hx⟩:=KR.single x u;refine yaF _ _ (yaE 56 1 #[(0,.tmp 54)] #[(0,kv x)] _ rfl (by simp only [List.map_toArray,List.map_cons,List.map_nil];rfl) (ycZ x _)) ?_;rw [e3,e4];clear e3;go_simp;have hS0:=hS0.tz hkx;refine hK _ _ hS0 ?_;clear hK K;refine jO 0 (fun K hK=>?_);obtain⟨ua,g0,e1,e2,hz0,ho⟩:=OK_.start ub;refine yaF _ _ (yaE 56 0 #[] #[] _ rfl (by simp) (yen _)) ?_;rw [e1,e2];clear e1;go_simp;have HSc:=jX hS0;have hS0:=hS0.tz ho.keep;refine hK _ _ hS0 ?_;clear hK K;refine jO 4 (fun K hK=>?_);obtain⟨v4,u4,hr4,ho4,hn4,hK4⟩:=KR.app (ty:=56) (ho) (by simp [Value.ownBlock]) (HR1.out _ hS0) (by rw [List.length_take];simp;omega);refine yaF _ _ (yas (.tmp 46) (.tmp 49) 56 _ _ _ rfl rfl rfl hr4) ?_;go_simp;clear hr4;have hS0:=HSc.out.tz ho4.keep;refine hK _ _ hS0 ?_;clear hK K;refine jO 10 (fun K hK=>?_);obtain⟨v10,u10,hr10,ho10,hn10,_⟩:=KR.app (ty:=56) (ho4) hn4 ((hx.later ho.keep).keepF (hK4 [g0] (fun g hg=>by simp [Value.ownBlock] at hg;simp [hg])) (by simp;omega)) (by rw [List.nil_append,List.length_take];simp;omega);refine yaF _ _ (yas (.tmp 50) (.tmp 55) 56 _ _ _ rfl rfl rfl hr10) ?_;go_simp;clear hr10;have hS0:=HSc.out.tz ho10.keep;refine hK _ _ hS0 ?_;clear hK K;refine jO 14 (fun K hK=>?_);obtain⟨v14,u14,hr14,ho14,_,_⟩:=KR.app (ty:=56) ho10 hn10 (HR2.out _ hS0) (by rw [List.length_append,List.nil_append,List.length_take,List.length_drop];simp;omega);refine yaF _ _ (yas (.tmp 56) (.tmp 59) 56 _ _ _ rfl rfl rfl hr14) ?_;go_simp;clear hr14;have hS0:=HSc.out.tz ho14.keep;refine hK _ _ hS0 ?_;clear hK K;refine ⟨by kernel_rfl,?_⟩;simp only [List.drop_succ_cons,List.drop_zero];have HNew:=jX ho14.read;have HKn:=jX (HKV.out.tz hS0);clear ho14 ho10 hS0;go_wp2_with fail;go_roundw
     case rel =>
      refine ⟨i+1,by omega,congrArg (Value.int .i64) (by omega),?_,HKr.out.tz HKn.out⟩;rw [Hstep.out,Hins.out];have:=HNew.out
      simpa using this
     case measure=>simp [intOf];omega
    have hkl:k=out.length:=by omega
    have Hins:Hid (insS x out=out.take k++x :: out.drop k):=(yhY out k hk Hall.out).2 (.inl hkl);have hnl:decide ((k:Int)<(out.length:Int))=false:=by simp;omega
    clear Hall hkl;go_wp2_with fail;refine yac (by kernel_rfl) (by kernel_rfl) ?_
    repeat (first
     | go_big_quiet_skip
     | (go_big_quiet_want;first
      | fail
      | (go_big_quiet_op;go_simp;go_big_quiet_on)
      | (go_big_quiet_op;go_big_quiet_call (first
       | fail))))
    refine wpQuiet_nil ?_;rintro w1 ⟨⟨_,hk_w1⟩,rfl⟩;have Hk1:=jX (HKq.out.tz hk_w1);clear hk_w1;go_wp2_with fail;refine yac (by kernel_rfl) (by kernel_rfl) ?_
    repeat (first
     | go_big_quiet_skip
     | (go_big_quiet_want;first
      | fail
      | (go_big_quiet_op;go_simp;go_big_quiet_on)
      | (go_big_quiet_op;go_big_quiet_call (first
       | fail))))
    refine wpQuiet_nil ?_;rintro w2 ⟨⟨_,hk_w2⟩,rfl⟩;have Hk2:=jX (Hk1.out.tz hk_w2);clear hk_w2 hnl;go_wp2_with fail;refine yaj (S:=fun u=>Keep [] w2 u) 15 (by kernel_rfl) (by kernel_rfl) (fun _ _ d _ _ h=>by cases d<;>exact h) ?_;have hS0:=Keep.drew [] w2;obtain⟨v1,hs1,hr1⟩:=yfG _ out _ (HO.out.later (Hk2.out)) k hk (by omega);obtain⟨v2,hs2,hr2⟩:=yfF _ out _ (HO.out.later (Hk2.out)) k hk (by omega);generalize World.drew w2=u at *;have HR1:=jX (fun w' (h:Keep [] w2 w')=>hr1.later h);have HR2:=jX (fun w' (h:Keep [] w2 w')=>hr2.later h);have HKV:=jX (Hk2.out);have HS1:=jX hs1;have HS2:=jX hs2;have HLx:=jX (fun w (hw:Keep [] w2 w)=>yat w g p x.1 (Hat.out.keep' (((Hk2.out).tz hw).block g hg (by simp))));clear hr1 hr2 hs1 hs2;refine' jV (v:=_) 1 hS0 (fun w hw=>?hd1) (fun K hK=>?kd1)
    case hd1=>(go_simp;try rfl)
    go_simp;refine hK _ ?_;clear hK K;refine' jV (v:=_) 2 hS0 (fun w hw=>?hd2) (fun K hK=>?kd2)
    case hd2=>(go_simp;try rfl)
    go_simp;refine hK _ ?_;clear hK K;refine jV (v:=v1) 3 hS0 (fun w hw=>ycW _ _ _ _ _ _ _ _ _ _ rfl rfl rfl rfl rfl (HS1.out _)) (fun K hK=>?_);go_simp;refine hK _ ?_;clear hK K;refine' jV (v:=_) 5 hS0 (fun w hw=>?hd5) (fun K hK=>?kd5)
    case hd5=>(go_simp;try rfl)
    go_simp;refine hK _ ?_;clear hK K;refine' jV (v:=_) 6 hS0 (fun w hw=>?hd6) (fun K hK=>?kd6)
    case hd6=>(go_simp;try rfl)
    go_simp;refine hK _ ?_;clear hK K;refine' jV (v:=_) 7 hS0 (fun w hw=>?hd7) (fun K hK=>?kd7)
    case hd7=>(go_simp;try rfl)
    go_simp;refine hK _ ?_;clear hK K;refine jV (v:=kv x) 8 hS0 (fun w hw=>yak _ _ ⟨g,p,none⟩ _ rfl rfl (HLx.out _ hw)) (fun K hK=>?_);go_simp;refine hK _ ?_;clear hK K;refine' jV (v:=_) 11 hS0 (fun w hw=>?hd11) (fun K hK=>?kd11)
    case hd11=>(go_simp;try rfl)
    go_simp;refine hK _ ?_;clear hK K;refine' jV (v:=_) 12 hS0 (fun w hw=>?hd12) (fun K hK=>?kd12)
    case hd12=>(go_simp;try rfl)
    go_simp;refine hK _ ?_;clear hK K;refine jV (v:=v2) 13 hS0 (fun w hw=>ycW _ _ _ _ _ _ _ _ _ _ rfl rfl rfl rfl rfl (HS2.out _)) (fun K hK=>?_);go_simp;refine hK _ ?_;clear hK K;refine yap 0 9 (by kernel_rfl) (by decide) (by decide) (by rfl) (by rfl) (by rfl) (by rfl) (fun K hK=>?_) (fun K hK=>?_)
    ·skip
     obtain⟨ua,g0,e1,e2,hz0,ho⟩:=OK_.start u;refine yaF _ _ (yaE 56 0 #[] #[] _ rfl (by simp) (yen _)) ?_;rw [e1,e2];clear e1;go_simp;have HSc:=jX hS0;have hS0:=hS0.tz ho.keep;refine hK _ _ hS0 ?_;clear hK K;refine yap 4 9 (by kernel_rfl) (by decide) (by decide) (by rfl) (by rfl) (by rfl) (by rfl) (fun K hK=>?_) (fun K hK=>?_)
     ·skip
      obtain⟨v4,u4,hr4,ho4,hn4,hK4⟩:=KR.app (ty:=56) (ho) (by simp [Value.ownBlock]) (HR1.out _ hS0) (by rw [List.length_take];simp;omega);refine yaF _ _ (yas (.tmp 46) (.tmp 49) 56 _ _ _ rfl rfl rfl hr4) ?_;go_simp;clear hr4;have hS0:=HSc.out.tz ho4.keep;refine hK _ _ hS0 ?_;clear hK K;refine jO 9 (fun K hK=>?_);obtain⟨ub,gx,e3,e4,hz1,hkx,hx⟩:=KR.single x u4;refine yaF _ _ (yaE 56 1 #[(0,.tmp 54)] #[(0,kv x)] _ rfl (by simp only [List.map_toArray,List.map_cons,List.map_nil];rfl) (ycZ x _)) ?_;rw [e3,e4];clear e3;go_simp;have hS0:=hS0.tz hkx;refine hK _ _ hS0 ?_;clear hK K;refine jO 10 (fun K hK=>?_);obtain⟨v10,u10,hr10,ho10,hn10,_⟩:=KR.app (ty:=56) (ho4.later hkx) hn4 (hx) (by rw [List.nil_append,List.length_take];simp;omega);refine yaF _ _ (yas (.tmp 50) (.tmp 55) 56 _ _ _ rfl rfl rfl hr10) ?_;go_simp;clear hr10;have hS0:=HSc.out.tz ho10.keep;refine hK _ _ hS0 ?_;clear hK K;refine jO 14 (fun K hK=>?_);obtain⟨v14,u14,hr14,ho14,_,_⟩:=KR.app (ty:=56) ho10 hn10 (HR2.out _ hS0) (by rw [List.length_append,List.nil_append,List.length_take,List.length_drop];simp;omega);refine yaF _ _ (yas (.tmp 56) (.tmp 59) 56 _ _ _ rfl rfl rfl hr14) ?_;go_simp;clear hr14;have hS0:=HSc.out.tz ho14.keep;refine hK _ _ hS0 ?_;clear hK K;refine ⟨by kernel_rfl,?_⟩;simp only [List.drop_succ_cons,List.drop_zero];have HNew:=jX ho14.read;have HKn:=jX (HKV.out.tz hS0);clear ho14 ho10 hS0;go_wp2_with fail;go_roundw
      case rel =>
       refine ⟨i+1,by omega,congrArg (Value.int .i64) (by omega),?_,HKr.out.tz HKn.out⟩;rw [Hstep.out,Hins.out];have:=HNew.out
       simpa using this
      case measure=>simp [intOf];omega
     skip
     obtain⟨ub,gx,e3,e4,hz1,hkx,hx⟩:=KR.single x ua;refine yaF _ _ (yaE 56 1 #[(0,.tmp 54)] #[(0,kv x)] _ rfl (by simp only [List.map_toArray,List.map_cons,List.map_nil];rfl) (ycZ x _)) ?_;rw [e3,e4];clear e3;go_simp;have hS0:=hS0.tz hkx;refine hK _ _ hS0 ?_;clear hK K;refine jO 4 (fun K hK=>?_);obtain⟨v4,u4,hr4,ho4,hn4,hK4⟩:=KR.app (ty:=56) (ho.later hkx) (by simp [Value.ownBlock]) (HR1.out _ hS0) (by rw [List.length_take];simp;omega);refine yaF _ _ (yas (.tmp 46) (.tmp 49) 56 _ _ _ rfl rfl rfl hr4) ?_;go_simp;clear hr4;have hS0:=HSc.out.tz ho4.keep;refine hK _ _ hS0 ?_;clear hK K;refine jO 10 (fun K hK=>?_);obtain⟨v10,u10,hr10,ho10,hn10,_⟩:=KR.app (ty:=56) (ho4) hn4 (hx.keepF (hK4 [g0] (fun g hg=>by simp [Value.ownBlock] at hg;simp [hg])) (by simp;omega)) (by rw [List.nil_append,List.length_take];simp;omega);refine yaF _ _ (yas (.tmp 50) (.tmp 55) 56 _ _ _ rfl rfl rfl hr10) ?_;go_simp;clear hr10;have hS0:=HSc.out.tz ho10.keep;refine hK _ _ hS0 ?_;clear hK K;refine jO 14 (fun K hK=>?_);obtain⟨v14,u14,hr14,ho14,_,_⟩:=KR.app (ty:=56) ho10 hn10 (HR2.out _ hS0) (by rw [List.length_append,List.nil_append,List.length_take,List.length_drop];simp;omega);refine yaF _ _ (yas (.tmp 56) (.tmp 59) 56 _ _ _ rfl rfl rfl hr14) ?_;go_simp;clear hr14;have hS0:=HSc.out.tz ho14.keep;refine hK _ _ hS0 ?_;clear hK K;refine ⟨by kernel_rfl,?_⟩;simp only [List.drop_succ_cons,List.drop_zero];have HNew:=jX ho14.read;have HKn:=jX (HKV.out.tz hS0);clear ho14 ho10 hS0;go_wp2_with fail;go_roundw
     case rel =>
      refine ⟨i+1,by omega,congrArg (Value.int .i64) (by omega),?_,HKr.out.tz HKn.out⟩;rw [Hstep.out,Hins.out];have:=HNew.out
      simpa using this
     case measure=>simp [intOf];omega
    skip
    obtain⟨ub,gx,e3,e4,hz1,hkx,hx⟩:=KR.single x u;refine yaF _ _ (yaE 56 1 #[(0,.tmp 54)] #[(0,kv x)] _ rfl (by simp only [List.map_toArray,List.map_cons,List.map_nil];rfl) (ycZ x _)) ?_;rw [e3,e4];clear e3;go_simp;have hS0:=hS0.tz hkx;refine hK _ _ hS0 ?_;clear hK K;refine jO 0 (fun K hK=>?_);obtain⟨ua,g0,e1,e2,hz0,ho⟩:=OK_.start ub;refine yaF _ _ (yaE 56 0 #[] #[] _ rfl (by simp) (yen _)) ?_;rw [e1,e2];clear e1;go_simp;have HSc:=jX hS0;have hS0:=hS0.tz ho.keep;refine hK _ _ hS0 ?_;clear hK K;refine jO 4 (fun K hK=>?_);obtain⟨v4,u4,hr4,ho4,hn4,hK4⟩:=KR.app (ty:=56) (ho) (by simp [Value.ownBlock]) (HR1.out _ hS0) (by rw [List.length_take];simp;omega);refine yaF _ _ (yas (.tmp 46) (.tmp 49) 56 _ _ _ rfl rfl rfl hr4) ?_;go_simp;clear hr4;have hS0:=HSc.out.tz ho4.keep;refine hK _ _ hS0 ?_;clear hK K;refine jO 10 (fun K hK=>?_);obtain⟨v10,u10,hr10,ho10,hn10,_⟩:=KR.app (ty:=56) (ho4) hn4 ((hx.later ho.keep).keepF (hK4 [g0] (fun g hg=>by simp [Value.ownBlock] at hg;simp [hg])) (by simp;omega)) (by rw [List.nil_append,List.length_take];simp;omega);refine yaF _ _ (yas (.tmp 50) (.tmp 55) 56 _ _ _ rfl rfl rfl hr10) ?_;go_simp;clear hr10;have hS0:=HSc.out.tz ho10.keep;refine hK _ _ hS0 ?_;clear hK K;refine jO 14 (fun K hK=>?_);obtain⟨v14,u14,hr14,ho14,_,_⟩:=KR.app (ty:=56) ho10 hn10 (HR2.out _ hS0) (by rw [List.length_append,List.nil_append,List.length_take,List.length_drop];simp;omega);refine yaF _ _ (yas (.tmp 56) (.tmp 59) 56 _ _ _ rfl rfl rfl hr14) ?_;go_simp;clear hr14;have hS0:=HSc.out.tz ho14.keep;refine hK _ _ hS0 ?_;clear hK K;refine ⟨by kernel_rfl,?_⟩;simp only [List.drop_succ_cons,List.drop_zero];have HNew:=jX ho14.read;have HKn:=jX (HKV.out.tz hS0);clear ho14 ho10 hS0;go_wp2_with fail;go_roundw
    case rel =>
     refine ⟨i+1,by omega,congrArg (Value.int .i64) (by omega),?_,HKr.out.tz HKn.out⟩;rw [Hstep.out,Hins.out];have:=HNew.out
     simpa using this
    case measure=>simp [intOf];omega
  obtain rfl:i=l.length:=by omega
  have hfin:KR wo (.slice oo (ybf (l.take l.length)).length oc) (ybf l):=by
   have h:=HO.out;simp only [List.take_length] at h ⊢;exact h
  go_wp2_with fail;go_ret
  exact ⟨_,rfl,hfin,HKr.out⟩
end
section
open Classical
def ptsL (l:List (Iv K)):List K:=l.flatMap fun i=>[i.f.pt,i.l.pt]
theorem ygQ {l:List (Iv K)} {k:Nat} (h:k<l.length):ptsL (l.take (k+1))=ptsL (l.take k)++[l[k].f.pt,l[k].l.pt]:=by
 unfold ptsL;rw [List.take_succ_eq_append_getElem h,List.flatMap_append];simp
theorem ybA (l:List (Iv K)):(ptsL l).length=2*l.length:=by
 unfold ptsL;induction l with
 | nil=>rfl
 | cons i l ih=>rw [List.flatMap_cons,List.length_append,ih];simp;omega
theorem ends_c (l:List (Iv K)) (w:World) (sv:Value) (hr:IvR w sv l) (h9:l.length≤50000) :
  Calls prog 79 #[sv] w fun e w'=>∃ v,e = .returned v∧KR w' v (ybf (ptsL l))∧Keep [] w w':=by
 have HR:=jX hr;obtain⟨ao,ac,rfl,_⟩:=hr.form;clear hr;go_enter func79,ntmps79
 go_wp2_with fail;go_loopw [3,4] (fun ov c wr=>∃ k:Nat,k≤l.length∧c = .int .i64 (k:Int)∧OK_ w wr ov (ptsL (l.take k))) (fun _ c _=>l.length-(intOf c).toNat)
 case atStart=>exact ⟨0,Nat.zero_le _,rfl,OE.nil w⟩
 case round =>
  obtain⟨k,hk,rfl,hov⟩:=hrel;obtain⟨out,hout⟩:∃ out,ptsL (l.take k)=out:=⟨_,rfl⟩;rw [hout] at hov;have Hlen:=jX (show out.length=2*k by rw [← hout,ybA,List.length_take,Nat.min_eq_left hk])
  have Hout:=jX hout;have HO:=jX hov;obtain⟨oo,oc,rfl⟩:=hov.form;clear hov hout;by_cases hlt:k<l.length
  ·skip
   obtain⟨g,o,rfl,hg,hat⟩:=IvR.elem HR.out k hlt;have Hstep:=jX (ygQ hlt);generalize l[k]=i at *;obtain⟨p,hp⟩:∃ p,o+k*20=p:=⟨_,rfl⟩;rw [hp] at hat;have HF:=jX (fun u (hu:Keep [] w u)=>yat u g p _ (hat.keep (hu.block g hg (by simp))).frm);have HT:=jX (fun u (hu:Keep [] w u)=>yat u g (p+9) _ (hat.keep (hu.block g hg (by simp))).upto);clear hat;go_wp2_with fail;refine yaj (S:=fun u=>Keep [] w u) 13 (by kernel_rfl) (by kernel_rfl) (fun _ _ d _ _ h=>by cases d<;>exact h) ?_;have hW:=Keep.drew [] wr;have hS0:=HO.out.keep.tz hW;generalize World.drew wr=u at *;refine' jV (v:=_) 0 hS0 (fun w hw=>?he0) (fun K hK=>?ke0)
   case he0=>(go_simp;try rfl)
   go_simp;refine hK _ ?_;clear hK K;refine' jV (v:=_) 1 hS0 (fun w hw=>?he1) (fun K hK=>?ke1)
   case he1=>(go_simp;try rfl)
   go_simp;refine hK _ ?_;clear hK K;refine' jV (v:=_) 2 hS0 (fun w hw=>?he2) (fun K hK=>?ke2)
   case he2=>(go_simp;try rfl)
   go_simp;refine hK _ ?_;clear hK K;refine' jV (v:=_) 3 hS0 (fun w hw=>?he3) (fun K hK=>?ke3)
   case he3=>(go_simp;try rfl)
   go_simp;refine hK _ ?_;clear hK K;refine' jV (v:=_) 4 hS0 (fun w hw=>?he4) (fun K hK=>?ke4)
   case he4=>(go_simp;try rfl)
   go_simp;refine hK _ ?_;clear hK K;refine jV (v:=kv i.f.pt) 5 hS0 (fun w hw=>yak _ _ ⟨g,p,none⟩ _ rfl rfl (HF.out _ hw)) (fun K hK=>?_);go_simp;refine hK _ ?_;clear hK K;refine' jV (v:=_) 6 hS0 (fun w hw=>?he6) (fun K hK=>?ke6)
   case he6=>(go_simp;try rfl)
   go_simp;refine hK _ ?_;clear hK K;refine' jV (v:=_) 7 hS0 (fun w hw=>?he7) (fun K hK=>?ke7)
   case he7=>(go_simp;try rfl)
   go_simp;refine hK _ ?_;clear hK K;refine' jV (v:=_) 8 hS0 (fun w hw=>?he8) (fun K hK=>?ke8)
   case he8=>(go_simp;try rfl)
   go_simp;refine hK _ ?_;clear hK K;refine' jV (v:=_) 9 hS0 (fun w hw=>?he9) (fun K hK=>?ke9)
   case he9=>(go_simp;try rfl)
   go_simp;refine hK _ ?_;clear hK K;refine jV (v:=kv i.l.pt) 10 hS0 (fun w hw=>yak _ _ ⟨g,p+9,none⟩ _ rfl rfl (HT.out _ hw)) (fun K hK=>?_);go_simp;refine hK _ ?_;clear hK K;refine jO 11 (fun K hK=>?_);obtain⟨ub,gx,e3,e4,hz1,hkx,hx⟩:=KR.pair i.f.pt i.l.pt u;refine yaF _ _ (yaE 56 2 #[(0,.tmp 16),(1,.tmp 21)] #[(0,kv i.f.pt),(1,kv i.l.pt)] _ rfl (by simp only [List.map_toArray,List.map_cons,List.map_nil];rfl) (yih _ _ _)) ?_;rw [e3,e4];clear e3;go_simp;have hS0:=hS0.tz hkx;have hW:=hW.tz hkx;refine hK _ _ hS0 ?_;clear hK K;refine jO 12 (fun K hK=>?_);obtain⟨v4,u4,hr4,ho4,hn4,_⟩:=KR.app' (ty:=56) (HO.out.later hW) (.inr (by simp)) hx (by rw [Hlen.out];simp;omega);refine yaF _ _ (yas (.tmp 11) (.tmp 22) 56 _ _ _ rfl rfl rfl hr4) ?_;go_simp;clear hr4;refine hK _ _ ho4.keep ?_;clear hK K;have HN:=jX ho4;obtain⟨no,nc,rfl⟩:=ho4.form;refine ⟨by kernel_rfl,?_⟩;simp only [List.drop_succ_cons,List.drop_zero];clear ho4 hS0 hW hkx hx hn4;go_wp2_with fail;go_roundw
   case rel=>exact ⟨k+1,by omega,congrArg (Value.int .i64) (by omega),by rw [Hstep.out,Hout.out];exact HN.out⟩
   case measure=>simp [intOf];omega
  obtain rfl:k=l.length:=by omega
  have hfin:out=ptsL l:=by rw [← Hout.out,List.take_length]
  have HC:=jX (sorted_c out wr _ HO.out.read (by rw [hfin,ybA];omega));have Hfin:=jX hfin;clear hfin;go_wp2_with fail;refine HC.out.mono ?_;rintro e w5 ⟨v,rfl,hv,hk5⟩;rw [Hfin.out] at hv;have HV:=jX hv;have HK5:=jX (HO.out.keep.tz hk5);clear hv hk5 HC;dsimp only;go_wp2_with fail;go_ret
  exact ⟨_,rfl,HV.out,HK5.out⟩
end
end Go.Proofs.YtejegogbhpmgfaaGreatDoor
