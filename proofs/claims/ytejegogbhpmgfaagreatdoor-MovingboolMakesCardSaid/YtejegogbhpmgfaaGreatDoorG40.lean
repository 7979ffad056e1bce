/- Parts of a proof: Ml Mm Vn Vo Mo Mc. -/
import Derived.IntWalk
import Derived.Test.YtejegogbhpmgfaaGreatDoorG39
import Derived.Test.YtejegogbhpmgfaaGreatDoorG37
import Derived.Test.YtejegogbhpmgfaaGreatDoorG32
import Derived.Test.YtejegogbhpmgfaaGreatDoorG17
import Derived.Test.YtejegogbhpmgfaaGreatDoorG13
import Derived.Test.YtejegogbhpmgfaaGreatDoorG31
import Derived.Test.YtejegogbhpmgfaaGreatDoorG24
import Derived.Test.YtejegogbhpmgfaaGreatDoorG35
import Derived.Test.YtejegogbhpmgfaaGreatDoorG38
set_option linter.unusedVariables false
set_option linter.unusedSimpArgs false
set_option maxRecDepth 100000
set_option maxHeartbeats 8000000
namespace Go.Proofs.YtejegogbhpmgfaaGreatDoor
open Go.RowKit Tryz
section
open Classical
section
variable {S:List K} {w0 w w' W V:World} {L M:List (Value × List (Iv K))}
theorem MP.re (h:MP S V w L) (hk:Keep [] W w):MP S W w L:=⟨⟨hk,h.mi.2⟩,h.per,h.few⟩
theorem MP.put (h:MP S V w L) {g:Nat} {cs:Array Value} {t:TypeId} (hb:w.heap[g]? = some (.cells cs t)) (hs:cs.size<20) (hk:Keep [g] w w') (hg:V.heap.size≤g):MP S V w' L :=
 ⟨⟨h.keep.trans hk (by simp;exact hg),fun p hp=>(h.mi.2 p hp).laterBox hb hs hk⟩,h.per,h.few⟩
theorem al_bool (ev:Operand→Value) (w:World) (o:Oper) (ho:o.op = .alloc 29):(execOp ev o).run prog w = .ok (.value (.pointer (some ⟨w.heap.size,0,none⟩))) (w.alloc (.cells #[.slice none 0 0,.slice none 0 0] 29)):=by
 have e:(zeroValue 29).run prog w = .ok (.agg #[.slice none 0 0,.slice none 0 0]) w:=by go_simp
 unfold execOp;simp only [ho];unfold Instr.alloc;simp only [Sem.run_bind,e,Result.andThen_ok];rfl
theorem b_size:(prog.info? 29).map (·.size)=some 2:=by
 kernel_rfl
end
end
section
open Classical
theorem b_one (a b:Option Addr) (m n k l:Nat):(#[.slice a m k,.slice b n l]:Array Value).all (·.oneCell')=true:=by simp [Value.oneCell']
theorem st2b {w:World} {g:Nat} {a b y:Value} {t:TypeId} (h:w.heap[g]? = some (.cells #[a,b] t (0,0))) :
  ∃ W,W=w.setCell ⟨g,1,none⟩ y∧W.heap[g]? = some (.cells #[a,y] t (0,0))∧Keep [g] w W :=
 ⟨_,rfl,set_same h 1 y,Keep.setCell [g] w g 1 y (by simp)⟩
section
variable {S:List K} {w0 w w' W:World} {L M:List (Value × List (Iv K))} {D T E U P:List (Iv K)} {da ta ea ua pa:Option Addr} {dc tc ec uc pc:Nat}
end
end
section
open Classical
theorem okAt {w0 w:World} {g n c:Nat} {l:List K} (h:OK_ w0 w (.slice (some ⟨g,0,none⟩) n c) l) (i:Nat) (hi:i<l.length):KAt w g (i*9) l[i].1∧g<w.heap.size:=by
 obtain⟨g',o',e,hg',hat⟩:=RowE.elem (fun x:K=>yav x.1) h.read i hi;injection e with e;injection e with e1 e2;subst e1 e2;refine ⟨fun j v hv=>?_,hg'⟩;have:=hat j v hv;rwa [Nat.zero_add] at this
theorem yeL (l:List K) (j k e:Nat) (hj:k=j+1) (he:e=k+1) (hk:k<l.length) (hjl:j<l.length):compactS (l.take e)=if l[k]=l[j] then compactS (l.take k) else compactS (l.take k)++[l[k]]:=by
 subst hj he;exact ygm l j hk
theorem yiy (C l:List K) (m e:Nat) (hC:C.length=m) (hm:m≤e) (he:e<l.length) (h:e<(C++l.drop m).length):(C++l.drop m)[e]=l[e]:=by
 subst hC;rw [List.getElem_append_right hm,List.getElem_drop];congr 1
 omega
theorem yhq (l:List K) (w0 w:World) (sv:Value) (h:OK_ w0 w sv l) (h9:l.length≤1000000000) :
  Calls prog 78 #[sv] w fun e w'=>∃ v,e = .returned v∧KR w' v (compactS l)∧Keep [] w0 w':=by
 have HO:=jX h;by_cases hsh:l.length<2
 ·obtain⟨oo,oc,rfl⟩:=h.form
  have HF:=jX (yde l hsh);clear h;go_enter func78,ntmps78
  go_wp2_with fail;go_ret
  exact ⟨_,rfl,by rw [HF.out];exact HO.out.read,HO.out.keep⟩
 rcases h.row.2 with ⟨hv,hn⟩|⟨g,c,cur,rfl,_,hg,hnc,hcm,hr1,hr2⟩
 ·exfalso;omega
 clear h hg hr1 hr2 hcm;go_enter func78,ntmps78
 go_wp2_with fail;go_loopw [3] (fun cv wr=>∃ k:Nat,1≤k∧k≤l.length∧cv = .int .i64 (k:Int)∧compactS (l.take k)=l.take k∧Keep [] w wr) (fun cv _=>l.length-(intOf cv).toNat)
 case atStart=>exact ⟨1,Nat.le_refl _,by omega,rfl,yde _ (by rw [List.length_take];omega),Keep.refl _ _⟩
 case round =>
  obtain⟨k,hk1,hk,rfl,hcp,hkp⟩:=hrel;obtain⟨j,hj⟩:∃ j,k=j+1:=⟨k-1,by omega⟩;have Hj:=jX hj;have HC:=jX hcp;have HK:=jX hkp;have hsub:(k:Int)-1=(j:Int):=by omega
  have hjl:j<l.length:=by omega
  clear hcp hkp;by_cases hlt:k<l.length
  ·have hjc:((j:Nat):Int)<(l.length:Int):=by omega
   have h1:=okAt (HO.out.later HK.out) k hlt;have h2:=okAt (HO.out.later HK.out) j hjl;have Hst:=jX (yeL l j k (k+1) hj rfl hlt hjl);have Hkx:Hid (l.take (k+1)=l.take k++[l[k]]):=List.take_succ_eq_append_getElem hlt;clear hj;obtain⟨p,hp⟩:∃ p,k*9=p:=⟨_,rfl⟩;obtain⟨q,hq⟩:∃ q,j*9=q:=⟨_,rfl⟩;rw [hp] at h1;rw [hq] at h2;have HLx:=jX (KAt.ld h1.1 h1.2);have HLy:=jX (KAt.ld h2.1 h2.2);generalize l[k]=x at *;generalize l[j]=y at *;have HN:=jX (eqR_run x y);clear h1 h2;unfold kv at *;generalize kC x=X at *;generalize kC y=Y at *;by_cases hxy:x=y
   ·rw [decide_eq_true hxy] at HN
    have Hc:=jX (Hst.out.trans (if_pos hxy));clear Hst hxy;go_wp2_with fail;refine yac (by kernel_rfl) (by kernel_rfl) ?_
    repeat (first
     | go_big_quiet_skip
     | (go_big_quiet_want;first
      | (refine yai _ _ _ (.agg X) rfl rfl (by rintro _ ⟨m,rfl⟩;exact HLx.out m) ?_;go_simp;go_big_quiet_on)|(refine yai _ _ _ (.agg Y) rfl rfl (by rintro _ ⟨m,rfl⟩;exact HLy.out m) ?_;go_simp;go_big_quiet_on)|(refine ycm _ _ _ _ _ _ _ (_) rfl rfl rfl eqK_g (by intro w;exact HN.out w) ?_;go_simp;go_big_quiet_on)
      | (go_big_quiet_op;first|go_big_quiet_on|go_big_quiet_call (first
       | fail))))
    refine wpQuiet_nil ?_;rintro w1 ⟨⟨_,hk_w1⟩,rfl⟩;clear HLx HLy HN;have Hk1:=jX hk_w1;clear hk_w1;have HO1:=jX ((HO.out.later HK.out).later Hk1.out);have Hc1:=jX (Hc.out.trans HC.out);have Htl:=jX (show (l.take k).length=k by rw [List.length_take];omega)
    clear Hc HC Hkx HK Hk1 hjc hsub hjl Hj hq;have Hp:=jX hp;obtain⟨nn,hnn⟩:∃ nn,l.length-k=nn:=⟨_,rfl⟩;have Hnk:=jX (show k+nn=l.length by omega)
    have hnp:1<c:=by omega
    go_wp2_with fail;go_loopw [3,5] (fun mv iv_ wv=>∃ (m i:Nat),mv = .int .i64 (m:Int)∧iv_ = .int .i64 (i:Int)∧1≤i∧k+i≤l.length∧m+1≤k+i∧(compactS (l.take (k+i))).length=m∧OK_ w0 wv (.slice (some ⟨g,0,none⟩) l.length c) (compactS (l.take (k+i))++l.drop m)) (fun _ iv_ _=>l.length-(intOf iv_).toNat)
    case atStart=>exact ⟨k,1,rfl,rfl,Nat.le_refl _,by omega,by omega,by rw [Hc1.out,Htl.out],by rw [Hc1.out,List.take_append_drop];exact HO1.out⟩
    case round =>
     obtain⟨m,i,rfl,rfl,hi1,hil,hmi,hcl,hov⟩:=hrel;rename World=>wv;have Hcl:=jX hcl;have HOv:=jX hov;have hlen:(compactS (l.take (k+i))++l.drop m).length=l.length:=(OK_.len hov).symm;have hml:m<l.length:=by have:=Hnk.out;omega
     clear hov;by_cases hlt2:i<nn
     ·obtain⟨i',hi'⟩:∃ i',i=i'+1:=⟨i-1,by omega⟩
      have hsub2:(i:Int)-1=(i':Int):=by omega
      have hltc:(i':Int)<(nn:Int):=by omega
      have hki:k+i<l.length:=by have:=Hnk.out;omega
      have hki':k+i'<l.length:=by omega
      have h1:=okAt HOv.out (k+i) (by omega);have h2:=okAt HOv.out (k+i') (by omega);rw [yiy _ l m (k+i) hcl (by omega) hki] at h1;rw [yiy _ l m (k+i') hcl (by omega) hki'] at h2;have Hst:=jX (yeL l (k+i') (k+i) (k+(i+1)) (by omega) (by omega) hki hki');have Hdm:Hid (l.drop m=l[m] :: l.drop (m+1)):=List.drop_eq_getElem_cons hml;have Hi':=jX hi';clear hi' hlen hcl;generalize l[m]=y0 at *;generalize l[k+i]=x at *;generalize l[k+i']=y at *;obtain⟨r,hr⟩:∃ r,p+i*9=r:=⟨_,rfl⟩;obtain⟨s,hs⟩:∃ s,p+i'*9=s:=⟨_,rfl⟩;obtain⟨mm,hmm⟩:∃ mm,m*9=mm:=⟨_,rfl⟩;have Hmm:=jX hmm;rw [show (k+i)*9=r by rw [Nat.add_mul,Hp.out];exact hr] at h1
      rw [show (k+i')*9=s by rw [Nat.add_mul,Hp.out];exact hs] at h2
      have HLx:=jX (KAt.ld h1.1 h1.2);have HLy:=jX (KAt.ld h2.1 h2.2);have HN:=jX (neqR_run x y);have HLd:Hid (∀ u,Keep [] wv u→(loadVar 36 ⟨g,r,none⟩).run prog u = .ok (.agg (kC x)) u):=fun u hu=>yat u g r x.1 (h1.1.keep (hu.block g h1.2 (by simp)));have HX:=jX (kC_fac x);clear h1 h2;unfold kv at *;generalize kC x=X at *;generalize kC y=Y at *;by_cases hxy:x=y
      ·rw [decide_eq_true hxy] at HN
       have Hc:=jX (Hst.out.trans (if_pos hxy));clear Hst hxy HLd HX;go_wp2_with fail;refine yac (by kernel_rfl) (by kernel_rfl) ?_
       repeat (first
        | go_big_quiet_skip
        | (go_big_quiet_want;first
         | (refine yai _ _ _ (.agg X) rfl rfl (by rintro _ ⟨m,rfl⟩;exact HLx.out m) ?_;go_simp;go_big_quiet_on)|(refine yai _ _ _ (.agg Y) rfl rfl (by rintro _ ⟨m,rfl⟩;exact HLy.out m) ?_;go_simp;go_big_quiet_on)|(refine ycm _ _ _ _ _ _ _ (_) rfl rfl rfl eqK_g (by intro w;exact HN.out w) ?_;go_simp;go_big_quiet_on)
         | (go_big_quiet_op;first|go_big_quiet_on|go_big_quiet_call (first
          | fail))))
       refine wpQuiet_nil ?_;rintro w1 ⟨⟨_,hk_w1⟩,rfl⟩;clear HLx HLy HN;have Hk1:=jX hk_w1;clear hk_w1;go_wp2_with fail;go_roundw
       case rel=>exact ⟨m,i+1,rfl,congrArg (Value.int .i64) (by omega),by omega,by omega,by omega,by rw [Hc.out];exact Hcl.out,by rw [Hc.out];exact HOv.out.later Hk1.out⟩
       case measure=>simp [intOf];omega
      rw [decide_eq_false hxy] at HN;have Hc:=jX (Hst.out.trans (if_neg hxy));clear Hst hxy;go_wp2_with fail;refine yac (by kernel_rfl) (by kernel_rfl) ?_
      repeat (first
       | go_big_quiet_skip
       | (go_big_quiet_want;first
        | (refine yai _ _ _ (.agg X) rfl rfl (by rintro _ ⟨m,rfl⟩;exact HLx.out m) ?_;go_simp;go_big_quiet_on)|(refine yai _ _ _ (.agg Y) rfl rfl (by rintro _ ⟨m,rfl⟩;exact HLy.out m) ?_;go_simp;go_big_quiet_on)|(refine ycm _ _ _ _ _ _ _ (_) rfl rfl rfl eqK_g (by intro w;exact HN.out w) ?_;go_simp;go_big_quiet_on)
        | (go_big_quiet_op;first|go_big_quiet_on|go_big_quiet_call (first
         | fail))))
      refine wpQuiet_nil ?_;rintro w1 ⟨⟨_,hk_w1⟩,rfl⟩;clear HLx HLy HN;have Hk1:=jX hk_w1;clear hk_w1;have HL2:=jX (HLd.out _ Hk1.out);have HO2:=jX (HOv.out.later Hk1.out);rw [Hdm.out] at HO2;have HTh:=jX (OK_.there HO2.out mm 9 (by rw [← Hmm.out];omega));have HSet:=jX (OK_.setm x HO2.out);rw [Hcl.out,Hmm.out,← HX.out.1] at HSet;have Hmc:(m:Int)<(l.length:Int):=by omega
      clear HLd HO2 Hk1 HOv;go_upto_region 12 with (fail)
      refine wp_region_lit ?_;refine' yad (v:=_) (by rfl) (?ha) (fun K hK=>?ka)
      case ha=>(go_simp;try rfl)
      go_simp;refine hK _ _ ?_;clear hK K;refine' yad (v:=_) (by rfl) (?hb) (fun K hK=>?kb)
      case hb=>(go_simp;try rfl)
      go_simp;refine hK _ _ ?_;clear hK K;refine' yad (v:=_) (by rfl) (?hc) (fun K hK=>?kc)
      case hc=>(go_simp;try rfl)
      go_simp;refine hK _ _ ?_;clear hK K;refine' yad (v:=_) (by rfl) (?hd) (fun K hK=>?kd)
      case hd=>(go_simp;try rfl)
      go_simp;refine hK _ _ ?_;clear hK K;refine' yad (v:=_) (by rfl) (?he) (fun K hK=>?ke)
      case he=>(go_simp;try rfl)
      go_simp;refine hK _ _ ?_;clear hK K;refine yad (v:=.agg X) (by rfl) (yak _ _ ⟨g,r,none⟩ _ rfl rfl HL2.out) (fun K hK=>?_);go_simp;refine hK _ _ ?_;clear hK K;refine' yad (v:=_) (by rfl) (?hf) (fun K hK=>?kf)
      case hf=>(go_simp;try rfl)
      go_simp;refine hK _ _ ?_;clear hK K;refine ybP (by rfl) _ _ _ rfl g mm X rfl rfl (by rw [HX.out.2.1];exact HTh.out) (by rw [HX.out.2.1];exact k_size) HX.out.2.2 (fun K hK=>?_);go_simp;refine hK _ _ ?_;clear hK K;generalize World.setCells _ g mm X.toList=u9 at *;go_wp2_with fail;go_roundw
      case rel=>exact ⟨m+1,i+1,congrArg (Value.int .i64) (by omega),congrArg (Value.int .i64) (by omega),by omega,by omega,by omega,by rw [Hc.out,List.length_append,Hcl.out];rfl,by rw [Hc.out,List.append_assoc];exact HSet.out⟩
      case measure=>simp [intOf];omega
     obtain rfl:i=nn:=by have:=Hnk.out;omega
     have hfull:l.take (k+i)=l:=by rw [Hnk.out,List.take_length]
     obtain⟨mm,hmm⟩:∃ mm,m*9=mm:=⟨_,rfl⟩;obtain⟨qq,hqq⟩:∃ qq,l.length-m=qq:=⟨_,rfl⟩;have Hq0:=jX (show 0<qq by omega)
     have HTh:=jX (OK_.there HOv.out mm (qq*9) (by omega));have HCut:=jX (OK_.cut HOv.out (Builtin.zeroCells rZ qq).toList (by rw [yeY,List.length_drop,hqq]));rw [hcl,hmm,hfull] at HCut;clear hfull hlen hcl Hcl HOv;have hmc:m≤c:=by omega
     have hml2:m≤l.length:=by omega
     have hmc2:¬ c=m:=by omega
     go_upto_region 14 with (fail)
     refine wp_region_lit ?_;refine' yad (v:=_) (by rfl) (?hg) (fun K hK=>?kg)
     case hg=>(go_simp;try rfl)
     go_simp;refine hK _ _ ?_;clear hK K;refine' yad (v:=_) (by rfl) (?hh) (fun K hK=>?kh)
     case hh=>(go_simp;try rfl)
     go_simp;refine hK _ _ ?_;clear hK K;refine' yad (v:=_) (by rfl) (?hi) (fun K hK=>?ki)
     case hi=>(go_simp;try rfl)
     go_simp;refine hK _ _ ?_;clear hK K;refine yaq (v:=.tuple #[]) (by rfl) (yjc (.tmp 56) 56 _ rfl rfl (clear_k wv g mm qq _ Hq0.out HTh.out)) (fun K hK=>?_);go_simp;refine hK _ _ ?_;clear hK K HTh;generalize World.setCells wv g mm (Builtin.zeroCells rZ qq).toList=u9 at *;go_wp2_with fail;go_ret
     exact ⟨_,rfl,HCut.out.1,HCut.out.2⟩
   rw [decide_eq_false hxy] at HN;have Hc:Hid (compactS (l.take (k+1))=l.take (k+1)):=(Hst.out.trans (if_neg hxy)).trans (by rw [HC.out,Hkx.out]);clear Hst hxy;go_wp2_with fail;refine yac (by kernel_rfl) (by kernel_rfl) ?_
   repeat (first
    | go_big_quiet_skip
    | (go_big_quiet_want;first
     | (refine yai _ _ _ (.agg X) rfl rfl (by rintro _ ⟨m,rfl⟩;exact HLx.out m) ?_;go_simp;go_big_quiet_on)|(refine yai _ _ _ (.agg Y) rfl rfl (by rintro _ ⟨m,rfl⟩;exact HLy.out m) ?_;go_simp;go_big_quiet_on)|(refine ycm _ _ _ _ _ _ _ (_) rfl rfl rfl eqK_g (by intro w;exact HN.out w) ?_;go_simp;go_big_quiet_on)
     | (go_big_quiet_op;first|go_big_quiet_on|go_big_quiet_call (first
      | fail))))
   refine wpQuiet_nil ?_;rintro w1 ⟨⟨_,hk_w1⟩,rfl⟩;clear HLx HLy HN;have Hk1:=jX hk_w1;clear hk_w1;go_wp2_with fail;go_roundw
   case rel=>exact ⟨k+1,by omega,by omega,congrArg (Value.int .i64) (by omega),Hc.out,HK.out.tz Hk1.out⟩
   case measure=>simp [intOf];omega
  obtain rfl:k=l.length:=by omega
  have HF:=HC.out;rw [List.take_length] at HF;have HF2:=jX HF;clear HF;go_wp2_with fail;go_ret
  exact ⟨_,rfl,by rw [HF2.out];exact (HO.out.later HK.out).read,HO.out.keep.tz HK.out⟩
end
section
open Classical
theorem psorted_c (l:List K) (w0 w:World) (sv:Value) (h:OK_ w0 w sv l) (h9:l.length≤1000000000) :
  Calls prog 113 #[sv] w fun e w'=>∃ v,e = .returned v∧KR w' v (ybf l)∧Keep [] w0 w':=by
 have HS:=jX (yfC l w0 w sv h h9);have HCC:=jX (fun (m:List K) (u:World) (ho:OK_ w0 u sv m) (h:m.length=l.length)=>yhq m w0 u sv ho (by rw [h];exact h9));obtain⟨oo,oc,rfl⟩:=h.form;clear h;go_enter func113,ntmps113
 go_wp2_with fail;refine HS.out.mono ?_;rintro e w1 ⟨rfl,l',hp,hs,ho⟩;dsimp only;have HC:=jX (HCC.out l' w1 ho hp.length_eq);have HF:=jX (ygo hp.symm hs);clear HS HCC hp hs ho;go_wp2_with fail;refine HC.out.mono ?_;rintro e w2 ⟨v,rfl,hv,hk⟩;dsimp only;rw [HF.out] at hv;have HV:=jX hv;have HK:=jX hk;clear HC HF hv hk;go_wp2_with fail;go_ret
 exact ⟨_,rfl,HV.out,HK.out⟩
theorem pends_c (l:List (Iv K)) (w:World) (sv:Value) (hr:IvR w sv l) (h9:l.length≤50000) :
  Calls prog 75 #[sv] w fun e w'=>∃ v,e = .returned v∧KR w' v (ybf (ptsL l))∧Keep [] w w':=by
 have HR:=jX hr;obtain⟨ao,ac,rfl,_⟩:=hr.form;clear hr;go_enter func75,ntmps75
 go_wp2_with fail;go_loopw [3,8] (fun ov c wr=>∃ k:Nat,k≤l.length∧c = .int .i64 (k:Int)∧OK_ w wr ov (ptsL (l.take k))) (fun _ c _=>l.length-(intOf c).toNat)
 case atStart=>exact ⟨0,Nat.zero_le _,rfl,OE.nil w⟩
 case round =>
  obtain⟨k,hk,rfl,hov⟩:=hrel;obtain⟨out,hout⟩:∃ out,ptsL (l.take k)=out:=⟨_,rfl⟩;rw [hout] at hov;have Hlen:=jX (show out.length=2*k by rw [← hout,ybA,List.length_take,Nat.min_eq_left hk])
  have Hout:=jX hout;have HO:=jX hov;obtain⟨oo,oc,rfl⟩:=hov.form;clear hov hout;by_cases hlt:k<l.length
  ·obtain⟨g,o,rfl,hg,hat⟩:=IvR.elem (HR.out.later HO.out.keep) k hlt
   have Hstep:=jX (ygQ hlt);generalize l[k]=s at *;obtain⟨p,hp⟩:∃ p,o+k*20=p:=⟨_,rfl⟩;rw [hp] at hat;have HL:=jX (ybH wr g p s hat);clear hat;go_upto_region 4 with (fail)
   refine wp_region_lit ?_;refine' yad (v:=_) (by rfl) (?ha) (fun K hK=>?ka)
   case ha=>(go_simp;try rfl)
   go_simp;refine hK _ _ ?_;clear hK K;refine yad (v:=iv s) (by rfl) (yak _ _ ⟨g,p,none⟩ _ rfl rfl HL.out) (fun K hK=>?_);go_simp;refine hK _ _ ?_;clear hK K;obtain⟨w1,gt,e1,e2,bgt,hgt,_,hk1⟩:=al1 wr (.cells #[.bool false,.string ⟨#[]⟩,.bool false,.string ⟨#[]⟩,.bool false,.string ⟨#[]⟩,.bool false,.string ⟨#[]⟩,.bool false,.bool false,.string ⟨#[]⟩,.bool false,.string ⟨#[]⟩,.bool false,.string ⟨#[]⟩,.bool false,.string ⟨#[]⟩,.bool false,.bool false,.bool false] 49);refine yaq (v:=.pointer (some ⟨wr.heap.size,0,none⟩)) (w':=wr.alloc (.cells #[.bool false,.string ⟨#[]⟩,.bool false,.string ⟨#[]⟩,.bool false,.string ⟨#[]⟩,.bool false,.string ⟨#[]⟩,.bool false,.bool false,.string ⟨#[]⟩,.bool false,.string ⟨#[]⟩,.bool false,.string ⟨#[]⟩,.bool false,.string ⟨#[]⟩,.bool false,.bool false,.bool false] 49)) (by rfl) (yfX _ _ _ rfl) (fun K hK=>?_);rw [← e1,e2];clear e1;go_simp;refine hK _ _ ?_;clear hK K;refine yam (by rfl) _ _ _ rfl gt (iC s) rfl rfl _ _ bgt (by exact ycq s) (by rfl) (ycC s) (fun K hK=>?_);obtain⟨w2,e4,b4,k4⟩:=yal (cs:=iC s) bgt;rw [e4];go_simp;refine hK _ _ ?_;clear hK K e4 HL;have HW2:=jX (show Keep [] wr w2 from hk1.trans k4 (by simp;omega))
   have HF:=jX (yat w2 gt 0 _ (yaW b4).frm);have HT:=jX (yat w2 gt (0+9) _ (yaW b4).upto);clear b4 k4 hk1 bgt;go_upto_region 5 with (fail)
   refine wp_region_lit ?_;refine' yad (v:=_) (by rfl) (?hr) (fun K hK=>?kr)
   case hr=>(go_simp;try rfl)
   go_simp;refine hK _ _ ?_;clear hK K;refine' yad (v:=_) (by rfl) (?hs) (fun K hK=>?ks)
   case hs=>(go_simp;try rfl)
   go_simp;refine hK _ _ ?_;clear hK K;refine yad (v:=kv s.f.pt) (by rfl) (yak _ _ ⟨gt,0,none⟩ _ rfl rfl HF.out) (fun K hK=>?_);go_simp;refine hK _ _ ?_;clear hK K;refine' yad (v:=_) (by rfl) (?ht) (fun K hK=>?kt)
   case ht=>(go_simp;try rfl)
   go_simp;refine hK _ _ ?_;clear hK K;refine yad (v:=kv s.l.pt) (by rfl) (yak _ _ ⟨gt,9,none⟩ _ rfl rfl HT.out) (fun K hK=>?_);go_simp;refine hK _ _ ?_;clear hK K;obtain⟨ub,gx,e3,e4,hz1,hkx,hx⟩:=KR.pair s.f.pt s.l.pt w2;refine yaq (v:=.slice (some ⟨w2.heap.size,0,none⟩) 2 2) (by rfl) (yaE 56 2 #[(0,.tmp 14),(1,.tmp 16)] #[(0,kv s.f.pt),(1,kv s.l.pt)] _ rfl (by simp only [List.map_toArray,List.map_cons,List.map_nil];rfl) (yih _ _ _)) (fun K hK=>?_);rw [e3,e4];clear e3;go_simp;refine hK _ _ ?_;clear hK K;obtain⟨v4,u4,hr4,ho4,hn4,_⟩:=KR.app' (ty:=56) (HO.out.later (HW2.out.tz hkx)) (.inr (by simp)) hx (by rw [Hlen.out];simp;omega);refine yaq (by rfl) (yas (.tmp 12) (.tmp 17) 56 _ _ _ rfl rfl rfl hr4) (fun K hK=>?_);go_simp;refine hK _ _ ?_;clear hK K hr4 hx hkx;have HN:=jX ho4;obtain⟨no,nc,rfl⟩:=ho4.form;clear ho4 hn4;go_wp2_with fail;go_roundw
   case rel=>exact ⟨k+1,by omega,congrArg (Value.int .i64) (by omega),by rw [Hstep.out,Hout.out];exact HN.out⟩
   case measure=>simp [intOf];omega
  obtain rfl:k=l.length:=by omega
  have hfin:out=ptsL l:=by rw [← Hout.out,List.take_length]
  have HC:=jX (psorted_c out w wr _ HO.out (by rw [hfin,ybA];omega));have Hfin:=jX hfin;clear hfin;go_wp2_with fail;refine HC.out.mono ?_;rintro e w5 ⟨v,rfl,hv,hk5⟩;rw [Hfin.out] at hv;have HV:=jX hv;have HK5:=jX hk5;clear hv hk5 HC;dsimp only;go_wp2_with fail;go_ret
  exact ⟨_,rfl,HV.out,HK5.out⟩
end
section
open Classical
theorem ydR {fn:Func} {p u v:Tmp} {ty:TypeId} (h:fn.results = #[.cell p ty,.tmp u,.tmp v]) (tmps:Array Value) (P:Program) (w:World) :
  (results fn tmps).run P w =
   ((asAddr (tmps.getD p undef)).run P w).andThen fun a w₁=>((loadVar ty a).run P w₁).andThen fun x w₂=>.ok (.tuple #[x,tmps.getD u undef,tmps.getD v undef]) w₂:=by
 simp only [results,h];simp [Sem.run_bind,Result.andThen]
theorem kat0 {w:World} {g k:Nat} {x:Qn} (h:KAt w g (0+k) x):KAt w g k x:=by rw [Nat.zero_add] at h;exact h
def FLPost (S:List K) (w0:World) (L:List (Value × List (Iv K))) (t:K) (is:Bool) (e:Int) (en:Ending) (w':World):Prop:=en = .returned (.tuple #[kv t,.bool is,.int .i64 e])∧MP S w0 w' L
section
variable {S:List K} {w0 w w' W:World} {L M:List (Value × List (Iv K))} {D T E U P:List (Iv K)} {da ta ea ua pa:Option Addr} {dc tc ec uc pc:Nat}
theorem MP.last (h:MP S w0 w L) {m:Nat} (hm:T.length=m+1) (hT:(.slice ta T.length tc,T)∈L):Calls prog 25 #[.agg #[.slice da D.length dc,.slice ta T.length tc]] w (FLPost S w0 L (T[m]'(by omega)).l.pt ((T[m]'(by omega)).l.beh) 0):=by
 obtain⟨g,o,rfl,hg,hat⟩:=IvR.elem (h.get hT) m (by omega);have H0:=jX h;generalize T[m]'(by omega)=i at *;obtain⟨p,hp⟩:∃ p,o+m*20=p:=⟨_,rfl⟩;rw [hp] at hat;have hl2:m<2000:=by have:=h.len hT;omega
 have hwr:IntKind.i64.wrap (m:Int)=(m:Int):=IntWalk.i64_in _ (by omega);have hm0:(0:Int)≤(m:Int):=by omega
 have htn:((m:Int)).toNat=m:=by omega
 have HAT:=jX (fun u (hk:Keep [] w u)=>ybH u g p i (hat.keep (hk.block g hg (by simp))));rw [hm] at *;have Hlt0:(0:Int)<((m+1:Nat):Int):=by omega
 have Hlt:(m:Int)<((m+1:Nat):Int):=by omega
 have hsub:((m+1:Nat):Int)-1=(m:Int):=by omega
 have hne:(((m+1:Nat):Int) == 0)=false:=by rw [beq_eq_false_iff_ne];omega
 have hlt:m<m+1:=by omega
 generalize m+1=n at *;clear h hT hat;go_enter func25,ntmps25
 go_upto_region 1 with (fail)
 obtain⟨W,ga,gb,hW,ega,egb,Bga,Bgb,hga,hgb,hgW,HkW⟩:=al2h w (.cells #[.slice da D.length dc,.slice (some ⟨g,o,none⟩) n tc] 29) (.cells #[.bool false,.string ⟨#[]⟩,.bool false,.string ⟨#[]⟩,.bool false,.string ⟨#[]⟩,.bool false,.string ⟨#[]⟩,.bool false] 36);rw [← hW];try rw [egb]
 try rw [ega]
 clear hW ega egb;have pga:=yaa Bga.out;go_upto_region 3 with (fail)
 refine wp_region_lit ?_;refine' yad (v:=_) (by rfl) (?ha) (fun K hK=>?ka)
 case ha=>(go_simp;try rfl)
 go_simp;refine hK _ _ ?_;clear hK K;refine' yad (v:=_) (by rfl) (?hb) (fun K hK=>?kb)
 case hb=>(go_simp;try rfl)
 go_simp;refine hK _ _ ?_;clear hK K;refine' yad (v:=_) (by rfl) (?hc) (fun K hK=>?kc)
 case hc=>(go_simp;try rfl)
 go_simp;refine hK _ _ ?_;clear hK K;refine' yad (v:=_) (by rfl) (?hd) (fun K hK=>?kd)
 case hd=>(go_simp;try rfl)
 go_simp;refine hK _ _ ?_;clear hK K;refine' yad (v:=_) (by rfl) (?he) (fun K hK=>?ke)
 case he=>(go_simp;try rfl)
 go_simp;refine hK _ _ ?_;clear hK K;refine' yad (v:=_) (by rfl) (?hf) (fun K hK=>?kf)
 case hf=>(go_simp;try rfl)
 go_simp;refine hK _ _ ?_;clear hK K;refine' yad (v:=_) (by rfl) (?hg) (fun K hK=>?kg)
 case hg=>(go_simp;try rfl)
 go_simp;refine hK _ _ ?_;clear hK K;refine yad (v:=iv i) (by rfl) (yak _ _ ⟨g,p,none⟩ _ rfl rfl (HAT.out _ HkW.out)) (fun K hK=>?_);go_simp;refine hK _ _ ?_;clear hK K;obtain⟨w2,gi,e2,e3,b2,hgi,_,hk2⟩:=al1 W (.cells #[.bool false,.string ⟨#[]⟩,.bool false,.string ⟨#[]⟩,.bool false,.string ⟨#[]⟩,.bool false,.string ⟨#[]⟩,.bool false,.bool false,.string ⟨#[]⟩,.bool false,.string ⟨#[]⟩,.bool false,.string ⟨#[]⟩,.bool false,.string ⟨#[]⟩,.bool false,.bool false,.bool false] 49);refine yaq (v:=.pointer (some ⟨W.heap.size,0,none⟩)) (w':=W.alloc (.cells #[.bool false,.string ⟨#[]⟩,.bool false,.string ⟨#[]⟩,.bool false,.string ⟨#[]⟩,.bool false,.string ⟨#[]⟩,.bool false,.bool false,.string ⟨#[]⟩,.bool false,.string ⟨#[]⟩,.bool false,.string ⟨#[]⟩,.bool false,.string ⟨#[]⟩,.bool false,.bool false,.bool false] 49)) (by rfl) (yfX _ _ _ rfl) (fun K hK=>?_);rw [← e2,e3];clear e2 e3;go_simp;refine hK _ _ ?_;clear hK K;refine yam (by rfl) _ _ _ rfl gi (iC i) rfl rfl _ _ b2 (by exact ycq i) (by rfl) (ycC i) (fun K hK=>?_);obtain⟨W3,e4,b4,k4⟩:=yal (cs:=iC i) b2;rw [e4];go_simp;refine hK _ _ ?_;clear hK K e4;have HW3:=jX (hk2.trans k4 (by simp;omega));have Bgi:=jX b4;have Bgb:=jX (HW3.out.heap Bgb.out (by simp));have HkW:=jX (HkW.out.tz HW3.out);have hgi2:gi≠gb:=by omega
 clear b2 hk2 b4 k4 pga;go_upto_region 4 with (fail)
 refine yaj (S:=fun u=>Keep [gb] W3 u) 6 (by kernel_rfl) (by kernel_rfl) (fun _ _ d _ _ h=>by cases d<;>exact h) ?_;have hS0:=Keep.drew [gb] W3;have Bu:=jX ((Keep.drew [] W3).heap Bgb.out (by simp));have HkU:=jX (HkW.out.tz (Keep.drew [] W3));generalize World.drew W3=u at *;refine' jV (v:=_) 0 hS0 (fun w hw=>?hf0) (fun K hK=>?kf0)
 case hf0=>(go_simp;try rfl)
 go_simp;refine hK _ ?_;clear hK K;refine jV (v:=.agg (kC i.l.pt)) 1 hS0 (fun w hw=>yak _ _ ⟨gi,9,none⟩ _ rfl rfl (yat _ gi 9 i.l.pt.1 (kat0 (yaW (hw.heap Bgi.out (by simp;exact hgi2))).upto))) (fun K hK=>?_);go_simp;refine hK _ ?_;clear hK K;refine' jV (v:=_) 2 hS0 (fun w hw=>?hf2) (fun K hK=>?kf2)
 case hf2=>(go_simp;try rfl)
 go_simp;refine hK _ ?_;clear hK K;refine' jV (v:=_) 3 hS0 (fun w hw=>?hf3) (fun K hK=>?kf3)
 case hf3=>(have qf:=(yaW (hw.heap Bgi.out (by simp;exact hgi2))).opt;go_simp;try rfl)
 go_simp;refine hK _ ?_;clear hK K;refine' jV (v:=_) 4 hS0 (fun w hw=>?hf4) (fun K hK=>?kf4)
 case hf4=>(go_simp;try rfl)
 go_simp;refine hK _ ?_;clear hK K;refine jO 5 (fun K hK=>?_);refine wp_store_row _ _ _ rfl gb (kC i.l.pt) rfl rfl _ _ Bu.out (by exact k_size) (by rfl) (all_oneCell_toArray (yaS i.l.pt.1)) ?_;obtain⟨W4,e4,b4,k4⟩:=yal (cs:=kC i.l.pt) Bu.out;rw [e4];go_simp;refine hK _ _ (hS0.trans k4 (by simp)) ?_;clear hK K e4;refine ⟨by kernel_rfl,?_⟩;simp only [List.drop_succ_cons,List.drop_zero];have HkZ:=jX (HkU.out.trans k4 (by simp;omega));have HL:=jX (yat W4 gb 0 (i.l.pt).1 (ycz b4));clear b4 k4;go_wp2_with fail;refine bodyPost_ret (v:=.tuple #[kv i.l.pt,.bool i.l.beh,.int .i64 0]) ?_ rfl ⟨rfl,H0.out.move HkZ.out⟩;rw [ydR rfl];change ((loadVar 36 ⟨gb,0,none⟩).run prog W4).andThen _=_;rw [HL.out];rfl
end
end
section
open Classical
theorem yeU {i j r:Iv K} (hr:r.f<r.l) (h:∀ x,(i.has x&&j.has x)=r.has x):yax 2 [i] [j]=[r]:=by
 refine ygj ⟨hr,trivial⟩ (fun x=>?_);rw [ygk,ygk,ygk,dec2];exact (h x).symm
section
variable {k0 k2 k3 k4 k10 k12:K}
theorem mex_d (h1:k0<k3) (h2:k3<k10) (h3:k10<k12):yax 2 [⟨⟨k0,false⟩,⟨k10,true⟩⟩] [⟨⟨k3,false⟩,⟨k12,true⟩⟩]=[⟨⟨k3,false⟩,⟨k10,true⟩⟩]:=by
 have a1:(⟨k0,false⟩:Bd K)<⟨k3,false⟩:=Bd.lt_def.2 (.inl h1);have a2:(⟨k3,false⟩:Bd K)<⟨k10,true⟩:=Bd.lt_def.2 (.inl h2);have a3:(⟨k10,true⟩:Bd K)<⟨k12,true⟩:=Bd.lt_def.2 (.inl h3);refine yeU a2 (fun x=>?_);rw [Bool.eq_iff_iff,Bool.and_eq_true,Iv.hI,Iv.hI,Iv.hI];dsimp only;grind
theorem mex_t (h1:k2<k3) (h2:k3<k4) (h3:k4<k12):yax 2 [⟨⟨k2,false⟩,⟨k4,false⟩⟩] [⟨⟨k3,false⟩,⟨k12,true⟩⟩]=[⟨⟨k3,false⟩,⟨k4,false⟩⟩]:=by
 have a1:(⟨k2,false⟩:Bd K)<⟨k3,false⟩:=Bd.lt_def.2 (.inl h1);have a2:(⟨k3,false⟩:Bd K)<⟨k4,false⟩:=Bd.lt_def.2 (.inl h2);have a3:(⟨k4,false⟩:Bd K)<⟨k12,true⟩:=Bd.lt_def.2 (.inl h3);refine yeU a2 (fun x=>?_);rw [Bool.eq_iff_iff,Bool.and_eq_true,Iv.hI,Iv.hI,Iv.hI];dsimp only;grind
theorem mex_u (h1:k3<k4) (h2:k4<k10):yax 2 [⟨⟨k3,false⟩,⟨k10,true⟩⟩] [⟨⟨k3,false⟩,⟨k4,false⟩⟩]=[⟨⟨k3,false⟩,⟨k4,false⟩⟩]:=by
 have a1:(⟨k3,false⟩:Bd K)<⟨k4,false⟩:=Bd.lt_def.2 (.inl h1);have a2:(⟨k4,false⟩:Bd K)<⟨k10,true⟩:=Bd.lt_def.2 (.inl h2);refine yeU a1 (fun x=>?_);rw [Bool.eq_iff_iff,Bool.and_eq_true,Iv.hI,Iv.hI];dsimp only;grind
theorem yfn (i:Iv K) (t:K):holds [i] t=i.has ⟨t,false⟩:=by rw [ycQ,ygk]
theorem mex_at2 (h1:k2<k4):holds [⟨⟨k2,false⟩,⟨k4,false⟩⟩] k2=true:=by
 have a1:(⟨k2,false⟩:Bd K)<⟨k4,false⟩:=Bd.lt_def.2 (.inl h1);rw [yfn,Iv.hI];dsimp only;grind
theorem mex_at4:holds [⟨⟨k2,false⟩,⟨k4,false⟩⟩] k4=false:=by
 rw [yfn,← Bool.not_eq_true,Iv.hI];dsimp only;grind
theorem mex_in (h1:k0<k2) (h2:k2<k10):holds [⟨⟨k0,false⟩,⟨k10,true⟩⟩] k2=true:=by
 have a1:(⟨k0,false⟩:Bd K)<⟨k2,false⟩:=Bd.lt_def.2 (.inl h1);have a2:(⟨k2,false⟩:Bd K)<⟨k10,true⟩:=Bd.lt_def.2 (.inl h2);rw [yfn,Iv.hI];dsimp only;grind
theorem mex_ends (h1:k0<k2) (h2:k2<k4) (h3:k4<k10):ybf (ptsL ([⟨⟨k0,false⟩,⟨k10,true⟩⟩]++[⟨⟨k2,false⟩,⟨k4,false⟩⟩]))=[k0,k2,k4,k10]:=by
 refine ycx (ydz _) (by simp;grind) (fun z=>?_);rw [ybC];simp [ptsL];grind
end
theorem ends_two (a b:List (Iv K)) {l:List K} (hs:l.Pairwise (· ≤ ·)) (hm:∀ z,z∈l↔z∈ybf (ptsL a)++ybf (ptsL b)):compactS l=ybf (ptsL (a++b)):=by
 refine ycx (yea hs) (ydz _) (fun z=>?_);rw [ycD,hm,ybC,List.mem_append,ybC,ybC];simp [ptsL]
end
end Go.Proofs.YtejegogbhpmgfaaGreatDoor
