/- Parts of a proof: Fi Fj. -/
import Derived.Test.YtpgffjjpiafhpaaGreatDoorS26
import Derived.Test.YtpgffjjpiafhpaaGreatDoorS15
set_option linter.unusedVariables false
set_option linter.unusedSimpArgs false
set_option maxRecDepth 100000
set_option maxHeartbeats 8000000
namespace Go.Proofs.YtpgffjjpiafhpaaGreatDoor
open Go.RowKit Tryz
section
open Classical
abbrev OBI (w0 w:World) (v:Value) (l:List (Iv K)):Prop:=OB (fun i:Iv K=>icells i) 32 20 w0 w v l
theorem yeT (mv:Iv K→Iv K) (ok:Iv K→Bool) (l:List (Iv K)) (k:Nat) (h:k<l.length):((l.take (k+1)).map mv).filter ok=((l.take k).map mv).filter ok++if ok (mv l[k]) then [mv l[k]] else []:=by
 rw [List.take_succ_eq_append_getElem h,List.map_append,List.filter_append];congr 1
 by_cases hp:ok (mv l[k])<;>simp [hp]
theorem ycY (mv:Iv K→Iv K) (ok:Iv K→Bool) (l:List (Iv K)):((l.map mv).filter ok).length≤l.length:=Nat.le_trans (List.length_filter_le _ _) (by rw [List.length_map];omega)
theorem OBI.app {w0 w:World} {v:Value} {l:List (Iv K)} (t:Iv K) (h:OBI w0 w v l) (h9:l.length≤1000000) :
  ∃ u,w.alloc (.cells (iC t) 32)=u∧∃ v4 u4,(Builtin.append_ #[22,22] 22 #[v,.slice (some ⟨w.heap.size,0,none⟩) 1 1]).run prog u = .ok v4 u4∧OBI w0 u4 v4 (l++[t]):=by
 obtain⟨ub,gx,e3,e4,hz1,hkx,hx⟩:=IvR.single t w;obtain⟨b,hbs,hoe,hback⟩:=(h.later hkx.bz).oe;obtain⟨v4,u4,hr4,ho4,hn4,_⟩:=IvR.app (ty:=22) hoe (.inr (by simp)) hx (by simp;omega);rw [e4];exact ⟨ub,e3,v4,u4,hr4,hback _ _ _ ho4⟩
theorem widenE_c (l:List (Iv K)) (mv:Iv K→Iv K) (ok:Iv K→Bool) (xa:Nat) (w:World)
  (hC:∀ s∈l,∀ u,Below w.heap.size w u→Calls prog 113 #[iv s,.pointer (some ⟨xa,0,none⟩)] u fun e w'=>e = .returned (.tuple #[iv (mv s),.bool (ok (mv s))])∧Below u.heap.size u w')
  (hv:∀ i∈(l.map mv).filter ok,i.f<i.l) (sv:Value) (hr:IvR w sv l) (h9:l.length≤10000) :
  Calls prog 112 #[sv,.func (.func 113) #[] #[.pointer (some ⟨xa,0,none⟩)]] w fun e w'=>∃ v,e = .returned v∧IvR w' v (normK ((l.map mv).filter ok))∧Below w.heap.size w w':=by
 have HR:=jX hr;have HC:=jX hC;have HN:=jX (fun u sv (h:IvR u sv ((l.map mv).filter ok))=>ygY _ hv u sv h (Nat.le_trans (ycY mv ok l) h9));obtain⟨ao,ac,rfl,_⟩:=hr.form;clear hr hC hv;go_enter func112,ntmps112
 go_wp2_with fail;go_loopw [5,12] (fun ov c wr=>∃ k:Nat,k≤l.length∧c = .int .i64 (k:Int)∧OBI w wr ov (((l.take k).map mv).filter ok)) (fun _ c _=>l.length-(intOf c).toNat)
 case atStart=>exact ⟨0,Nat.zero_le _,rfl,OB.nil w⟩
 case round =>
  obtain⟨k,hk,rfl,hov⟩:=hrel;obtain⟨out,hout⟩:∃ out,((l.take k).map mv).filter ok=out:=⟨_,rfl⟩;rw [hout] at hov;have Hlen:=jX (show out.length≤k by rw [← hout];exact Nat.le_trans (ycY mv ok _) (by rw [List.length_take];omega))
  have Hout:=jX hout;have HO:=jX hov;obtain⟨oo,oc,rfl⟩:=hov.form;clear hov hout;by_cases hlt:k<l.length
  ·obtain⟨g,o,rfl,hg,hat⟩:=IvR.elem (HR.out.laterB HO.out.keep) k hlt
   have Hstep:=jX (yeT mv ok l k hlt);have H1:=jX (HC.out l[k] (List.getElem_mem hlt));clear HC;generalize l[k]=s at *;obtain⟨t,ht⟩:∃ t,mv s=t:=⟨_,rfl⟩;obtain⟨r,hr⟩:∃ r,ok t=r:=⟨_,rfl⟩;rw [ht,hr] at H1 Hstep;clear ht hr;obtain⟨p,hp⟩:∃ p,o+k*20=p:=⟨_,rfl⟩;rw [hp] at hat;have HL:=jX (yaz wr g p s hat);clear hat;have hkc:(k:Int)<(l.length:Int):=by omega
   go_upto_region 4 with (fail)
   refine wp_region_lit ?_;refine wV (fun K hK=>?_);go_simp;refine hK _ ?_;clear hK K;refine wX (v:=iv s) ⟨g,p,none⟩ (HL.out) (fun K hK=>?_);go_simp;refine hK _ ?_;clear hK K;refine wA (yfE _ _ _ rfl) (fun w1 gt e2 bgt hgt _ hk1 K hK=>?_);go_simp;refine hK _ ?_;clear hK K;refine wR gt (iC s) bgt (by exact ybE s) (by rfl) (ybB s) (fun w2 b4 k4 K hK=>?_);go_simp;refine hK _ ?_;clear hK K HL;have HO2:=jX (HO.out.later (show Keep [] wr w2 from hk1.trans k4 (by simp;omega)).bz)
   have HL2:=jX (yaz w2 gt 0 s (yap b4));clear b4 k4 hk1 bgt;go_upto_region 5 with (fail)
   refine wp_region_lit ?_;refine wV (fun K hK=>?_);go_simp;refine hK _ ?_;clear hK K;refine wX (v:=iv s) ⟨gt,0,none⟩ (HL2.out) (fun K hK=>?_);go_simp;refine hK _ ?_;clear hK K;refine wpList_plain (by rfl) (fun K hK=>?_);refine yaf 113 #[iv s,.pointer (some ⟨xa,0,none⟩)] (by go_simp) ?_;refine (H1.out w2 HO2.out.keep).mono ?_;rintro e w3 ⟨rfl,hb3⟩;refine ⟨_,rfl,?_⟩;go_simp;refine hK _ _ ?_;clear hK K;have HO3:=jX (HO2.out.later hb3);clear hb3 HL2 H1 HO2;refine wV (fun K hK=>?_);go_simp;refine hK _ ?_;clear hK K;refine wV (fun K hK=>?_);go_simp;refine hK _ ?_;clear hK K;refine wV (fun K hK=>?_);go_simp;refine hK _ ?_;clear hK K;refine wA (yfE _ _ _ rfl) (fun w4 gu e2 bgu hgu _ hk4 K hK=>?_);go_simp;refine hK _ ?_;clear hK K;refine wR gu (iC t) bgu (by exact ybE t) (by rfl) (ybB t) (fun w5 b5 k5 K hK=>?_);go_simp;refine hK _ ?_;clear hK K;have HO5:=jX (HO3.out.later (show Keep [] w3 w5 from hk4.trans k5 (by simp;omega)).bz)
   have HLt:=jX (yaz w5 gu 0 t (yap b5));clear b5 k5 hk4 bgu HO3;cases r with
   | false =>
    have Hst:Hid (((l.take (k+1)).map mv).filter ok=out):=by
     have:=Hstep.out;rw [if_neg (by simp),List.append_nil] at this;rw [this,Hout.out];exact jX rfl
    clear Hstep;go_wp2_with fail;go_roundw
    case rel=>exact ⟨k+1,by omega,congrArg (Value.int .i64) (by omega),by rw [Hst.out];exact HO5.out⟩
    case measure=>simp [intOf];omega
   | true =>
    have Hst:Hid (((l.take (k+1)).map mv).filter ok=out++[t]):=by
     have:=Hstep.out;rw [if_pos rfl] at this;rw [this,Hout.out];exact jX rfl
    clear Hstep;go_upto_region 7 with (fail)
    refine wp_region_lit ?_;refine wV (fun K hK=>?_);go_simp;refine hK _ ?_;clear hK K;refine wX (v:=iv t) ⟨gu,0,none⟩ (HLt.out) (fun K hK=>?_);go_simp;refine hK _ ?_;clear hK K;obtain⟨ub,e6,v4,u4,hr4,ho4⟩:=OBI.app t HO5.out (by have:=Hlen.out;omega);refine yao (v:=.slice (some ⟨w5.heap.size,0,none⟩) 1 1) (by rfl) (yaJ 22 1 #[(0,.tmp 24)] #[(0,iv t)] _ rfl (by simp only [List.map_toArray,List.map_cons,List.map_nil];rfl) (ybd t _)) (fun K hK=>?_);rw [e6];clear e6;go_simp;refine hK _ _ ?_;clear hK K;refine yao (by rfl) (yaQ (.tmp 23) (.tmp 25) 22 _ _ _ rfl rfl rfl hr4) (fun K hK=>?_);go_simp;refine hK _ _ ?_;clear hK K hr4;have HN4:=jX ho4;obtain⟨no,nc,rfl⟩:=ho4.form;clear ho4;go_wp2_with fail;go_roundw
    case rel=>exact ⟨k+1,by omega,congrArg (Value.int .i64) (by omega),by rw [Hst.out];exact HN4.out⟩
    case measure=>simp [intOf];omega
  obtain rfl:k=l.length:=by omega
  rw [List.take_length] at Hout
  have HX:Hid (IvR wr (.slice oo out.length oc) ((l.map mv).filter ok)):=by
   have:=HO.out.read;rw [← Hout.out] at this ⊢;exact this
  have HB:=jX HO.out.keep;have HN1:=jX (HN.out wr _ HX.out);clear HO HC HN HX;go_wp2_with fail;refine HN1.out.mono ?_;rintro e w6 ⟨v,rfl,hv,hk6⟩;dsimp only;have HV:=jX hv;have HB6:=jX (HB.out.trans (Below.mono hk6.bz HB.out.size));obtain⟨vo,vc,rfl,_⟩:=hv.form;clear hv hk6 HN1;go_wp2_with fail;go_ret
  exact ⟨_,rfl,HV.out,HB6.out⟩
theorem widenS_c (l:List (Iv K)) (mv:Iv K→Iv K) (ok:Iv K→Bool) (xa xb:Nat) (w:World)
  (hC:∀ s∈l,∀ u,Below w.heap.size w u→Calls prog 117 #[iv s,.pointer (some ⟨xa,0,none⟩),.pointer (some ⟨xb,0,none⟩)] u fun e w'=>e = .returned (.tuple #[iv (mv s),.bool (ok (mv s))])∧Below u.heap.size u w')
  (hv:∀ i∈(l.map mv).filter ok,i.f<i.l) (sv:Value) (hr:IvR w sv l) (h9:l.length≤10000) :
  Calls prog 112 #[sv,.func (.func 117) #[] #[.pointer (some ⟨xa,0,none⟩),.pointer (some ⟨xb,0,none⟩)]] w fun e w'=>∃ v,e = .returned v∧IvR w' v (normK ((l.map mv).filter ok))∧Below w.heap.size w w':=by
 have HR:=jX hr;have HC:=jX hC;have HN:=jX (fun u sv (h:IvR u sv ((l.map mv).filter ok))=>ygY _ hv u sv h (Nat.le_trans (ycY mv ok l) h9));obtain⟨ao,ac,rfl,_⟩:=hr.form;clear hr hC hv;go_enter func112,ntmps112
 go_wp2_with fail;go_loopw [5,12] (fun ov c wr=>∃ k:Nat,k≤l.length∧c = .int .i64 (k:Int)∧OBI w wr ov (((l.take k).map mv).filter ok)) (fun _ c _=>l.length-(intOf c).toNat)
 case atStart=>exact ⟨0,Nat.zero_le _,rfl,OB.nil w⟩
 case round =>
  obtain⟨k,hk,rfl,hov⟩:=hrel;obtain⟨out,hout⟩:∃ out,((l.take k).map mv).filter ok=out:=⟨_,rfl⟩;rw [hout] at hov;have Hlen:=jX (show out.length≤k by rw [← hout];exact Nat.le_trans (ycY mv ok _) (by rw [List.length_take];omega))
  have Hout:=jX hout;have HO:=jX hov;obtain⟨oo,oc,rfl⟩:=hov.form;clear hov hout;by_cases hlt:k<l.length
  ·obtain⟨g,o,rfl,hg,hat⟩:=IvR.elem (HR.out.laterB HO.out.keep) k hlt
   have Hstep:=jX (yeT mv ok l k hlt);have H1:=jX (HC.out l[k] (List.getElem_mem hlt));clear HC;generalize l[k]=s at *;obtain⟨t,ht⟩:∃ t,mv s=t:=⟨_,rfl⟩;obtain⟨r,hr⟩:∃ r,ok t=r:=⟨_,rfl⟩;rw [ht,hr] at H1 Hstep;clear ht hr;obtain⟨p,hp⟩:∃ p,o+k*20=p:=⟨_,rfl⟩;rw [hp] at hat;have HL:=jX (yaz wr g p s hat);clear hat;have hkc:(k:Int)<(l.length:Int):=by omega
   go_upto_region 4 with (fail)
   refine wp_region_lit ?_;refine wV (fun K hK=>?_);go_simp;refine hK _ ?_;clear hK K;refine wX (v:=iv s) ⟨g,p,none⟩ (HL.out) (fun K hK=>?_);go_simp;refine hK _ ?_;clear hK K;refine wA (yfE _ _ _ rfl) (fun w1 gt e2 bgt hgt _ hk1 K hK=>?_);go_simp;refine hK _ ?_;clear hK K;refine wR gt (iC s) bgt (by exact ybE s) (by rfl) (ybB s) (fun w2 b4 k4 K hK=>?_);go_simp;refine hK _ ?_;clear hK K HL;have HO2:=jX (HO.out.later (show Keep [] wr w2 from hk1.trans k4 (by simp;omega)).bz)
   have HL2:=jX (yaz w2 gt 0 s (yap b4));clear b4 k4 hk1 bgt;go_upto_region 5 with (fail)
   refine wp_region_lit ?_;refine wV (fun K hK=>?_);go_simp;refine hK _ ?_;clear hK K;refine wX (v:=iv s) ⟨gt,0,none⟩ (HL2.out) (fun K hK=>?_);go_simp;refine hK _ ?_;clear hK K;refine wpList_plain (by rfl) (fun K hK=>?_);refine yaf 117 #[iv s,.pointer (some ⟨xa,0,none⟩),.pointer (some ⟨xb,0,none⟩)] (by go_simp) ?_;refine (H1.out w2 HO2.out.keep).mono ?_;rintro e w3 ⟨rfl,hb3⟩;refine ⟨_,rfl,?_⟩;go_simp;refine hK _ _ ?_;clear hK K;have HO3:=jX (HO2.out.later hb3);clear hb3 HL2 H1 HO2;refine wV (fun K hK=>?_);go_simp;refine hK _ ?_;clear hK K;refine wV (fun K hK=>?_);go_simp;refine hK _ ?_;clear hK K;refine wV (fun K hK=>?_);go_simp;refine hK _ ?_;clear hK K;refine wA (yfE _ _ _ rfl) (fun w4 gu e2 bgu hgu _ hk4 K hK=>?_);go_simp;refine hK _ ?_;clear hK K;refine wR gu (iC t) bgu (by exact ybE t) (by rfl) (ybB t) (fun w5 b5 k5 K hK=>?_);go_simp;refine hK _ ?_;clear hK K;have HO5:=jX (HO3.out.later (show Keep [] w3 w5 from hk4.trans k5 (by simp;omega)).bz)
   have HLt:=jX (yaz w5 gu 0 t (yap b5));clear b5 k5 hk4 bgu HO3;cases r with
   | false =>
    have Hst:Hid (((l.take (k+1)).map mv).filter ok=out):=by
     have:=Hstep.out;rw [if_neg (by simp),List.append_nil] at this;rw [this,Hout.out];exact jX rfl
    clear Hstep;go_wp2_with fail;go_roundw
    case rel=>exact ⟨k+1,by omega,congrArg (Value.int .i64) (by omega),by rw [Hst.out];exact HO5.out⟩
    case measure=>simp [intOf];omega
   | true =>
    have Hst:Hid (((l.take (k+1)).map mv).filter ok=out++[t]):=by
     have:=Hstep.out;rw [if_pos rfl] at this;rw [this,Hout.out];exact jX rfl
    clear Hstep;go_upto_region 7 with (fail)
    refine wp_region_lit ?_;refine wV (fun K hK=>?_);go_simp;refine hK _ ?_;clear hK K;refine wX (v:=iv t) ⟨gu,0,none⟩ (HLt.out) (fun K hK=>?_);go_simp;refine hK _ ?_;clear hK K;obtain⟨ub,e6,v4,u4,hr4,ho4⟩:=OBI.app t HO5.out (by have:=Hlen.out;omega);refine yao (v:=.slice (some ⟨w5.heap.size,0,none⟩) 1 1) (by rfl) (yaJ 22 1 #[(0,.tmp 24)] #[(0,iv t)] _ rfl (by simp only [List.map_toArray,List.map_cons,List.map_nil];rfl) (ybd t _)) (fun K hK=>?_);rw [e6];clear e6;go_simp;refine hK _ _ ?_;clear hK K;refine yao (by rfl) (yaQ (.tmp 23) (.tmp 25) 22 _ _ _ rfl rfl rfl hr4) (fun K hK=>?_);go_simp;refine hK _ _ ?_;clear hK K hr4;have HN4:=jX ho4;obtain⟨no,nc,rfl⟩:=ho4.form;clear ho4;go_wp2_with fail;go_roundw
    case rel=>exact ⟨k+1,by omega,congrArg (Value.int .i64) (by omega),by rw [Hst.out];exact HN4.out⟩
    case measure=>simp [intOf];omega
  obtain rfl:k=l.length:=by omega
  rw [List.take_length] at Hout
  have HX:Hid (IvR wr (.slice oo out.length oc) ((l.map mv).filter ok)):=by
   have:=HO.out.read;rw [← Hout.out] at this ⊢;exact this
  have HB:=jX HO.out.keep;have HN1:=jX (HN.out wr _ HX.out);clear HO HC HN HX;go_wp2_with fail;refine HN1.out.mono ?_;rintro e w6 ⟨v,rfl,hv,hk6⟩;dsimp only;have HV:=jX hv;have HB6:=jX (HB.out.trans (Below.mono hk6.bz HB.out.size));obtain⟨vo,vc,rfl,_⟩:=hv.form;clear hv hk6 HN1;go_wp2_with fail;go_ret
  exact ⟨_,rfl,HV.out,HB6.out⟩
theorem Erode_c (l:List (Iv K)) (q:Rat) (k0:Nat) (hk0:k0≤80000) (hs:∀ s∈l,SmI k0 s) (hq:FitQ 24 q) (w:World) (sv:Value) (hr:IvR w sv l) (h9:l.length≤10000) :
  Calls prog 53 #[sv,.agg (rC q)] w fun e w'=>∃ v,e = .returned v∧IvR w' v (eroK q l)∧Below w.heap.size w w':=by
 have HR:=jX hr;have HC:=jX (fun (u:World) (xa:Nat) (hb:u.heap[xa]? = some (.cells (rC q) 28)) (sv:Value) (h:IvR u sv l)=>widenE_c l (eroI q) okI xa u (fun s hs1 z hz=>erode1_c s q k0 hk0 (hs s hs1) hq z xa ((hz.block xa (yaa hb)).trans hb)) yiP sv h h9);obtain⟨ao,ac,rfl,_⟩:=hr.form;clear hr hs hq;go_enter func53,ntmps53
 go_upto_region 1 with (fail)
 obtain⟨W,ga,hW,ega,Bga,hga,hgW,HkW⟩:=al1h w (.cells (rC q) 28);rw [← hW];try rw [ega]
 clear hW ega;have H1:=jX (HC.out W ga Bga.out _ (HR.out.later HkW.out));clear HC;go_wp2_with fail;refine H1.out.mono ?_;rintro e w2 ⟨v,rfl,hv,hb⟩;dsimp only;have HV:=jX hv;have HB:=jX (HkW.out.bz.trans (Below.mono hb HkW.out.size));obtain⟨vo,vc,rfl,_⟩:=hv.form;clear hv hb H1;go_wp2_with fail;go_ret
 exact ⟨_,rfl,HV.out,HB.out⟩
theorem yiN (a b:Rat) (l:List (Iv K)):(l.map (swpI a b)).filter (fun _=>true)=swpL a b l:=List.filter_eq_self.2 (by simp)
theorem yiR {k:Nat} {a b:Rat} {l:List (Iv K)} (hk:k≤70000) (ha:FitQ 24 a) (hb:FitQ 24 b) (hab:a≤b) (hl:∀ i∈l,i.f<i.l) (sl:∀ i∈l,SmI k i):∀ i∈swpL a b l,i.f<i.l:=fun i hi=>by
 obtain⟨j,hj,rfl⟩:=List.mem_map.1 hi;have h1:mvB a j.f<mvB a j.l:=(yet (k:=k) (by omega) ha (sl j hj).1 (sl j hj).2).2 (hl j hj)
 have h2:mvK a j.l.pt≤mvK b j.l.pt:=by
  rw [K.le_def,yaS (sl j hj).2 (by omega) ha,yaS (sl j hj).2 (by omega) hb];exact fun hlt=>ygd j.l.pt.2.1.nn hab hlt
 have h3:mvB a j.l≤mvB b j.l:=by
  rw [Bd.le_def];show mvK a j.l.pt<mvK b j.l.pt∨(mvK a j.l.pt=mvK b j.l.pt∧(j.l.beh=true→j.l.beh=true))
  grind
 show mvB a j.f<mvB b j.l
 grind
theorem Sweep_c (l:List (Iv K)) (a b:Rat) (k0:Nat) (hk0:k0≤70000) (hs:∀ s∈l,SmI k0 s) (hl:∀ i∈l,i.f<i.l) (ha:FitQ 24 a) (hb:FitQ 24 b) (hab:a≤b) (w:World) (sv:Value) (hr:IvR w sv l) (h9:l.length≤10000) :
  Calls prog 59 #[sv,.agg (rC a),.agg (rC b)] w fun e w'=>∃ v,e = .returned v∧IvR w' v (swpK a b l)∧Below w.heap.size w w':=by
 have HR:=jX hr
 have HC:=jX (fun (u:World) (xa xb:Nat) (h1:u.heap[xa]? = some (.cells (rC a) 28)) (h2:u.heap[xb]? = some (.cells (rC b) 28)) (sv:Value) (h:IvR u sv l) =>
  widenS_c l (swpI a b) (fun _=>true) xa xb u (fun s hs1 z hz=>(sweep1_c s a b k0 (by omega) (hs s hs1) ha hb z xa xb ((hz.block xa (yaa h1)).trans h1) ((hz.block xb (yaa h2)).trans h2)).mono fun e w' h=>⟨h.1,h.2.bz⟩) (by rw [yiN];exact yiR hk0 ha hb hab hl hs) sv h h9)
 rw [yiN] at HC;obtain⟨ao,ac,rfl,_⟩:=hr.form;clear hr hs hl ha hb hab;go_enter func59,ntmps59
 go_upto_region 1 with (fail)
 obtain⟨W,ga,gb,hW,ega,egb,Bga,Bgb,hga,hgb,hgW,HkW⟩:=al2h w (.cells (rC a) 28) (.cells (rC b) 28);rw [← hW];try rw [egb]
 try rw [ega]
 clear hW ega egb;have H1:=jX (HC.out W ga gb Bga.out Bgb.out _ (HR.out.later HkW.out));clear HC;go_wp2_with fail;refine H1.out.mono ?_;rintro e w2 ⟨v,rfl,hv,hb⟩;dsimp only;have HV:=jX hv;have HB:=jX (HkW.out.bz.trans (Below.mono hb HkW.out.size));obtain⟨vo,vc,rfl,_⟩:=hv.form;clear hv hb H1;go_wp2_with fail;go_ret
 exact ⟨_,rfl,HV.out,HB.out⟩
end
section
open Classical
theorem rsweepT_c (l:List (Iv K)) (a b:Rat) (k0:Nat) (hk0:k0≤70000) (hsm:∀ s∈l,SmI k0 s) (hl:∀ i∈l,i.f<i.l) (ha:FitQ 24 a) (hb:FitQ 24 b) (hab:a≤b) (w:World) (sv:Value) (hr:IvR w sv l) (h9:l.length≤10000) :
  Calls prog 61 #[sv,.agg (rC a),.agg (rC b)] w fun e w'=>∃ v,e = .returned v∧IvR w' v (swpK a b l)∧Below w.heap.size w w'∧TyI w' v:=by
 have HR:=jX hr;have HS1:=jX (fun (x:K) (hx:Sm k0 x)=>ybM hx (by omega) ha);have HS2:=jX (fun (x:K) (hx:Sm k0 x)=>ybM hx (by omega) hb);have HSm:=jX hsm;have HN:=jX (fun u sv (h:IvR u sv (swpL a b l))=>ydf _ (yiR hk0 ha hb hab hl hsm) u sv h (by unfold swpL;rw [List.length_map];exact h9));obtain⟨ao,ac,rfl,_⟩:=hr.form;clear hr ha hb hsm hl hab;unfold swpK;unfold swpL at HN ⊢;go_enter func61,ntmps61
 go_upto_region 1 with (fail)
 obtain⟨W,ga,gb,hW,ega,egb,Bga,Bgb,hga,hgb,hgW,HkW⟩:=al2h w (.cells (rC a) 28) (.cells (rC b) 28);rw [← hW];try rw [egb]
 try rw [ega]
 clear hW ega egb;go_wp2_with fail;go_loopw [7,8] (fun ov c wr=>∃ k:Nat,k≤l.length∧c = .int .i64 (k:Int)∧OBI W wr ov ((l.take k).map (swpI a b))) (fun _ c _=>l.length-(intOf c).toNat)
 case atStart=>exact ⟨0,Nat.zero_le _,rfl,OB.nil W⟩
 case round =>
  obtain⟨k,hk,rfl,hov⟩:=hrel;obtain⟨out,hout⟩:∃ out,(l.take k).map (swpI a b)=out:=⟨_,rfl⟩;rw [hout] at hov;have Hlen:=jX (show out.length≤k by rw [← hout,List.length_map,List.length_take];omega)
  have Hout:=jX hout;have HO:=jX hov;obtain⟨oo,oc,rfl⟩:=hov.form;clear hov hout;by_cases hlt:k<l.length
  ·have Hstep:=jX (ydX (swpI a b) l k hlt)
   obtain⟨g,o,rfl,hg,hat⟩:=IvR.elem (HR.out.laterB (HkW.out.bz.trans (Below.mono HO.out.keep HkW.out.size))) k hlt;have hs:=HSm.out l[k] (List.getElem_mem hlt);generalize l[k]=s at *;obtain⟨p,hp⟩:∃ p,o+k*20=p:=⟨_,rfl⟩;rw [hp] at hat;have HL:=jX (yaz wr g p s hat);clear hat;have hkc:(k:Int)<(l.length:Int):=by omega
   go_upto_region 5 with (fail)
   refine wp_region_lit ?_;refine wV (fun K hK=>?_);go_simp;refine hK _ ?_;clear hK K;refine wV (fun K hK=>?_);go_simp;refine hK _ ?_;clear hK K;refine wV (fun K hK=>?_);go_simp;refine hK _ ?_;clear hK K;refine wX (v:=iv s) ⟨g,p,none⟩ (HL.out) (fun K hK=>?_);go_simp;refine hK _ ?_;clear hK K;refine wA (yfE _ _ _ rfl) (fun w1 gt e2 bgt hgt _ hk1 K hK=>?_);go_simp;refine hK _ ?_;clear hK K;refine wR gt (iC s) bgt (by exact ybE s) (by rfl) (ybB s) (fun w2 b4 k4 K hK=>?_);go_simp;refine hK _ ?_;clear hK K HL;have Bgt:=jX b4;have HW2:=jX (show Keep [] wr w2 from hk1.trans k4 (by simp;omega))
   have hgtw:wr.heap.size≤gt:=by omega
   clear b4 k4 hk1 bgt;have HXf:=jX ((yap Bgt.out).ldf (yaa Bgt.out));have HXt:=jX ((yap Bgt.out).ldt (yaa Bgt.out));rw [show kv s.f.pt = .agg (kC s.f.pt) from rfl] at HXf
   rw [show kv s.l.pt = .agg (kC s.l.pt) from rfl] at HXt
   have HCs:Hid ((iC s).size=20):=rfl;have Bxa:=jX (((HO.out.keep.trans (Below.mono HW2.out.bz HO.out.keep.size)).block ga (yaa Bga.out)).trans Bga.out);have Bxb:=jX (((HO.out.keep.trans (Below.mono HW2.out.bz HO.out.keep.size)).block gb (yaa Bgb.out)).trans Bgb.out);have HXa:=jX (kw_q Bxa.out);have HXb:=jX (kw_q Bxb.out);rw [yam] at HXa HXb;have H1:=jX (HS1.out s.f.pt hs.1);have H2:=jX (HS2.out s.l.pt hs.2);have F1:=jX (ybg (mvK a s.f.pt));have F2:=jX (ybg (mvK b s.l.pt));have HPut:Hid (ybu (ybu (iC s) 0 (kC (mvK a s.f.pt)).toList) 9 (kC (mvK b s.l.pt)).toList=iC (swpI a b s)):=put_iv s (swpI a b s) rfl rfl;clear hs;obtain⟨t,ht⟩:∃ t,swpI a b s=t:=⟨_,rfl⟩;rw [ht] at Hstep HPut;clear ht;generalize kC (mvK a s.f.pt)=M1 at *;generalize kC (mvK b s.l.pt)=M2 at *;generalize kC s.f.pt=F at *;generalize kC s.l.pt=L at *;generalize iC s=C0 at *;have Q1:Hid (∀ m:KW w2,Calls prog 54 #[.agg F,.agg (rC a)] (Wk w2 m) fun e w'=>e = .returned (.agg M1)∧∃ m,w'=Wk w2 m):=fun m=>qk m (H1.out _);have Q2:Hid (∀ m:KW w2,Calls prog 54 #[.agg L,.agg (rC b)] (Wk w2 m) fun e w'=>e = .returned (.agg M2)∧∃ m,w'=Wk w2 m):=fun m=>qk m (H2.out _);go_upto_region 6 with (fail)
   refine yah 9 (by kernel_rfl) (by kernel_rfl) ?_;simp only [List.take_succ_cons,List.take_zero,List.drop_succ_cons,List.drop_zero]
   repeat (first
    | go_big_quiet_skip
    | (go_big_quiet_want;first
     | (refine yaj _ _ _ (.agg F) rfl rfl (by rintro _ ⟨m,rfl⟩;exact HXf.out m) ?_;go_simp;go_big_quiet_on)|(refine yaj _ _ _ (.agg L) rfl rfl (by rintro _ ⟨m,rfl⟩;exact HXt.out m) ?_;go_simp;go_big_quiet_on)|(refine yaj _ _ _ (.agg (rC a)) rfl rfl (by rintro _ ⟨m,rfl⟩;exact HXa.out m) ?_;go_simp;go_big_quiet_on)|(refine yaj _ _ _ (.agg (rC b)) rfl rfl (by rintro _ ⟨m,rfl⟩;exact HXb.out m) ?_;go_simp;go_big_quiet_on)
     | (go_big_quiet_op;first|go_big_quiet_on|go_big_quiet_call (first
      | (go_at_call 54;with_reducible exact (Q1).out _)|(go_at_call 54;with_reducible exact (Q2).out _)))))
   refine wpQuiet_nil ?_;rintro w3 ⟨⟨_,hk_w3⟩,rfl⟩;have Bg3:=jX (hk_w3.heap Bgt.out (by simp));have HW3:=jX (HW2.out.tz hk_w3);clear hk_w3 HXf HXt HXa HXb H1 H2 Q1 Q2 Bgt Bxa Bxb;refine yaI (by rfl) _ _ _ rfl gt 0 M1 rfl rfl (yaZ Bg3.out _ _ (by rw [HCs.out,F1.out.2.1];decide)) (by rw [F1.out.2.1];exact k_size) F1.out.2.2 (fun K hK=>?_);obtain⟨b4,k4⟩:=yav M1.toList 0 C0 w3 Bg3.out;generalize World.setCells w3 gt 0 M1.toList=w4 at *;go_simp;refine hK _ _ ?_;clear hK K;refine wV (fun K hK=>?_);go_simp;refine hK _ ?_;clear hK K;refine yaI (by rfl) _ _ _ rfl gt 9 M2 rfl rfl (yaZ b4 _ _ (by rw [putAt_size,HCs.out,F2.out.2.1];decide)) (by rw [F2.out.2.1];exact k_size) F2.out.2.2 (fun K hK=>?_);obtain⟨b5,k5⟩:=yav M2.toList 9 _ w4 b4;generalize World.setCells w4 gt 9 M2.toList=w5 at *;go_simp;refine hK _ _ ?_;clear hK K;rw [HPut.out] at b5;have HO5:=jX (HO.out.later (show Keep [] wr w5 from (HW3.out.trans k4 (by simp;omega)).trans k5 (by simp;omega)).bz)
   have HLt:=jX (yaz w5 gt 0 t (yap b5));clear b4 b5 k4 k5 HW3 HW2 Bg3 HO;go_upto_region 7 with (fail)
   refine wp_region_lit ?_;refine wV (fun K hK=>?_);go_simp;refine hK _ ?_;clear hK K;refine wX (v:=iv t) ⟨gt,0,none⟩ (HLt.out) (fun K hK=>?_);go_simp;refine hK _ ?_;clear hK K;obtain⟨ub,e6,v4,u4,hr4,ho4⟩:=OBI.app t HO5.out (by have:=Hlen.out;omega);refine yao (v:=.slice (some ⟨w5.heap.size,0,none⟩) 1 1) (by rfl) (yaJ 22 1 #[(0,.tmp 31)] #[(0,iv t)] _ rfl (by simp only [List.map_toArray,List.map_cons,List.map_nil];rfl) (ybd t _)) (fun K hK=>?_);rw [e6];clear e6;go_simp;refine hK _ _ ?_;clear hK K;refine yao (by rfl) (yaQ (.tmp 30) (.tmp 32) 22 _ _ _ rfl rfl rfl hr4) (fun K hK=>?_);go_simp;refine hK _ _ ?_;clear hK K hr4;have HN4:=jX ho4;obtain⟨no,nc,rfl⟩:=ho4.form;clear ho4;go_wp2_with fail;go_roundw
   case rel=>exact ⟨k+1,by omega,congrArg (Value.int .i64) (by omega),by rw [Hstep.out,Hout.out];exact HN4.out⟩
   case measure=>simp [intOf];omega
  obtain rfl:k=l.length:=by omega
  rw [List.take_length] at Hout
  have HX:Hid (IvR wr (.slice oo out.length oc) (l.map (swpI a b))):=by
   have:=HO.out.read;rw [← Hout.out] at this ⊢;exact this
  have HB:=jX (HkW.out.bz.trans (Below.mono HO.out.keep HkW.out.size));have HN1:=jX (HN.out wr _ HX.out);clear HO HN HX;go_wp2_with fail;refine HN1.out.mono ?_;rintro e w6 ⟨v,rfl,hv,hk6,ht6⟩;dsimp only;have HV:=jX hv;have HT6:=jX ht6;clear ht6;have HB6:=jX (HB.out.trans (Below.mono hk6.bz HB.out.size));obtain⟨vo,vc,rfl,_⟩:=hv.form;clear hv hk6 HN1;go_wp2_with fail;go_ret
  exact ⟨_,rfl,HV.out,HB6.out,HT6.out⟩
theorem okI_cmp (t:Iv K):okI t=(decide (cmpQ t.f.pt.1 t.l.pt.1<0) || ((cmpQ t.f.pt.1 t.l.pt.1 == 0)&&(!t.f.beh&&t.l.beh))):=by
 unfold okI;rw [Bool.eq_iff_iff,decide_eq_true_iff,Bd.lt_def];rcases K.tri t.f.pt t.l.pt with ⟨h,g⟩|⟨h,g⟩|⟨h,g⟩
 ·rw [h]
  have h1:¬ t.f.pt<t.l.pt:=by grind
  have h2:¬ t.f.pt=t.l.pt:=by grind
  simp [h1,h2]
 ·rw [h]
  simp [g]
 rw [h];have h1:=K.irrefl t.l.pt;simp [g,h1]
theorem rerodeT_c (l:List (Iv K)) (q:Rat) (k0:Nat) (hk0:k0≤80000) (hsm:∀ s∈l,SmI k0 s) (hq:FitQ 24 q) (w:World) (sv:Value) (hr:IvR w sv l) (h9:l.length≤10000) :
  Calls prog 55 #[sv,.agg (rC q)] w fun e w'=>∃ v,e = .returned v∧IvR w' v (eroK q l)∧Below w.heap.size w w'∧TyI w' v:=by
 have HR:=jX hr;have HS2:=jX (fun (x:K) (hx:Sm k0 x)=>ybM hx (by omega) hq.neg);have HNeg:=jX (QNeg_c q);have HSm:=jX hsm;have HN:=jX (fun u sv (h:IvR u sv (eroL q l))=>ydf _ yiP u sv h (Nat.le_trans (ycY _ _ l) h9));obtain⟨ao,ac,rfl,_⟩:=hr.form;clear hr hq hsm;rw [yam,yam] at HNeg;unfold eroK;unfold eroL at HN ⊢;generalize rC (-q)=NQ at *;go_enter func55,ntmps55
 go_upto_region 1 with (fail)
 obtain⟨W,ga,hW,ega,Bga,hga,hgW,HkW⟩:=al1h w (.cells (rC q) 28);rw [← hW];try rw [ega]
 clear hW ega;go_wp2_with fail;go_loopw [5,6] (fun ov c wr=>∃ k:Nat,k≤l.length∧c = .int .i64 (k:Int)∧OBI W wr ov (((l.take k).map (eroI q)).filter okI)) (fun _ c _=>l.length-(intOf c).toNat)
 case atStart=>exact ⟨0,Nat.zero_le _,rfl,OB.nil W⟩
 case round =>
  obtain⟨k,hk,rfl,hov⟩:=hrel;obtain⟨out,hout⟩:∃ out,((l.take k).map (eroI q)).filter okI=out:=⟨_,rfl⟩;rw [hout] at hov;have Hlen:=jX (show out.length≤k by rw [← hout];exact Nat.le_trans (ycY _ _ _) (by rw [List.length_take];omega))
  have Hout:=jX hout;have HO:=jX hov;obtain⟨oo,oc,rfl⟩:=hov.form;clear hov hout;by_cases hlt:k<l.length
  ·have Hstep:=jX (yeT (eroI q) okI l k hlt)
   obtain⟨g,o,rfl,hg,hat⟩:=IvR.elem (HR.out.laterB (HkW.out.bz.trans (Below.mono HO.out.keep HkW.out.size))) k hlt;have hs:=HSm.out l[k] (List.getElem_mem hlt);generalize l[k]=s at *;obtain⟨p,hp⟩:∃ p,o+k*20=p:=⟨_,rfl⟩;rw [hp] at hat;have HL:=jX (yaz wr g p s hat);clear hat;have hkc:(k:Int)<(l.length:Int):=by omega
   go_upto_region 5 with (fail)
   refine wp_region_lit ?_;refine wV (fun K hK=>?_);go_simp;refine hK _ ?_;clear hK K;refine wV (fun K hK=>?_);go_simp;refine hK _ ?_;clear hK K;refine wV (fun K hK=>?_);go_simp;refine hK _ ?_;clear hK K;refine wX (v:=iv s) ⟨g,p,none⟩ (HL.out) (fun K hK=>?_);go_simp;refine hK _ ?_;clear hK K;refine wA (yfE _ _ _ rfl) (fun w1 gt e2 bgt hgt _ hk1 K hK=>?_);go_simp;refine hK _ ?_;clear hK K;refine wR gt (iC s) bgt (by exact ybE s) (by rfl) (ybB s) (fun w2 b4 k4 K hK=>?_);go_simp;refine hK _ ?_;clear hK K HL;have Bgt:=jX b4;have HW2:=jX (show Keep [] wr w2 from hk1.trans k4 (by simp;omega))
   have hgtw:wr.heap.size≤gt:=by omega
   clear b4 k4 hk1 bgt;have HXf:=jX ((yap Bgt.out).ldf (yaa Bgt.out));have HXt:=jX ((yap Bgt.out).ldt (yaa Bgt.out));rw [show kv s.f.pt = .agg (kC s.f.pt) from rfl] at HXf
   rw [show kv s.l.pt = .agg (kC s.l.pt) from rfl] at HXt
   have HCs:Hid ((iC s).size=20):=rfl;have Bxa:=jX (((HO.out.keep.trans (Below.mono HW2.out.bz HO.out.keep.size)).block ga (yaa Bga.out)).trans Bga.out);have HXa:=jX (kw_q Bxa.out);rw [yam] at HXa;have H2:=jX (HS2.out s.l.pt hs.2);have H0:=HNeg;have F2:=jX (ybg (mvK (-q) s.l.pt));have HPut:Hid (ybu (iC s) 9 (kC (mvK (-q) s.l.pt)).toList=iC (eroI q s)):=putTo s (eroI q s) rfl rfl;clear hs HXf;obtain⟨t,ht⟩:∃ t,eroI q s=t:=⟨_,rfl⟩;rw [ht] at Hstep HPut;clear ht;generalize kC (mvK (-q) s.l.pt)=M2 at *;generalize kC s.l.pt=L at *;generalize iC s=C0 at *;have Q0:Hid (∀ m:KW w2,Calls prog 60 #[.agg (rC q)] (Wk w2 m) fun e w'=>e = .returned (.agg NQ)∧∃ m,w'=Wk w2 m):=fun m=>qk m (H0.out _);have Q2:Hid (∀ m:KW w2,Calls prog 54 #[.agg L,.agg NQ] (Wk w2 m) fun e w'=>e = .returned (.agg M2)∧∃ m,w'=Wk w2 m):=fun m=>qk m (H2.out _);go_upto_region 6 with (fail)
   refine yah 6 (by kernel_rfl) (by kernel_rfl) ?_;simp only [List.take_succ_cons,List.take_zero,List.drop_succ_cons,List.drop_zero]
   repeat (first
    | go_big_quiet_skip
    | (go_big_quiet_want;first
     | (refine yaj _ _ _ (.agg L) rfl rfl (by rintro _ ⟨m,rfl⟩;exact HXt.out m) ?_;go_simp;go_big_quiet_on)|(refine yaj _ _ _ (.agg (rC q)) rfl rfl (by rintro _ ⟨m,rfl⟩;exact HXa.out m) ?_;go_simp;go_big_quiet_on)
     | (go_big_quiet_op;first|go_big_quiet_on|go_big_quiet_call (first
      | (go_at_call 60;with_reducible exact (Q0).out _)|(go_at_call 54;with_reducible exact (Q2).out _)))))
   refine wpQuiet_nil ?_;rintro w3 ⟨⟨_,hk_w3⟩,rfl⟩;have Bg3:=jX (hk_w3.heap Bgt.out (by simp));have HW3:=jX (HW2.out.tz hk_w3);clear hk_w3 HXt HXa H2 H0 Q0 Q2 Bgt Bxa;refine yaI (by rfl) _ _ _ rfl gt 9 M2 rfl rfl (yaZ Bg3.out _ _ (by rw [HCs.out,F2.out.2.1];decide)) (by rw [F2.out.2.1];exact k_size) F2.out.2.2 (fun K hK=>?_);obtain⟨b5,k5⟩:=yav M2.toList 9 _ w3 Bg3.out;generalize World.setCells w3 gt 9 M2.toList=w5 at *;go_simp;refine hK _ _ ?_;clear hK K;rw [HPut.out] at b5;have Bg5:=jX b5;have HO5:=jX (HO.out.later (show Keep [] wr w5 from HW3.out.trans k5 (by simp;omega)).bz)
   clear b5 k5 HW3 HW2 Bg3 HO;have H3:=jX (rcmpK_c t.f.pt t.l.pt);have HLf:=jX (yar w5 gt 0 t.f.pt.1 (yap Bg5.out).frm);have HLl:=jX (yar w5 gt (0+9) t.l.pt.1 (yap Bg5.out).upto);go_upto_region 7 with (fail)
   refine wp_region_lit ?_;refine wV (fun K hK=>?_);go_simp;refine hK _ ?_;clear hK K;refine wX (v:=.agg (kcells t.f.pt.1).toArray) ⟨gt,0,none⟩ (HLf.out) (fun K hK=>?_);go_simp;refine hK _ ?_;clear hK K;refine wV (fun K hK=>?_);go_simp;refine hK _ ?_;clear hK K;refine wX (v:=.agg (kcells t.l.pt.1).toArray) ⟨gt,0+9,none⟩ (HLl.out) (fun K hK=>?_);go_simp;refine hK _ ?_;clear hK K;refine wpList_plain (by rfl) (fun K hK=>?_);refine yaf 81 #[.agg (kcells t.f.pt.1).toArray,.agg (kcells t.l.pt.1).toArray] (by go_simp) ?_;refine (H3.out w5).mono ?_;rintro e w6 ⟨rfl,hk6⟩;refine ⟨_,rfl,?_⟩;go_simp;refine hK _ _ ?_;clear hK K HLf HLl H3;have HO5:=jX (HO5.out.later hk6.bz);have Bg6:=jX (hk6.heap Bg5.out (by simp));have qf:w6.cell? ⟨gt,18,none⟩=some (.bool t.f.beh):=(yap Bg6.out).opf;have qt:w6.cell? ⟨gt,19,none⟩=some (.bool (!t.l.beh)):=(yap Bg6.out).opt;have HLt:=jX (yaz w6 gt 0 t (yap Bg6.out));have hok:=okI_cmp t;rw [hok] at Hstep;clear hok hk6 Bg5 Bg6;generalize cmpQ t.f.pt.1 t.l.pt.1=n at *;generalize t.f.beh=b1 at *;generalize t.l.beh=b2 at *;rcases Int.lt_trichotomy n 0 with h|h|h
   ·have d1:decide (n<0)=true:=decide_eq_true h
    rw [d1] at Hstep;simp only [Bool.true_or] at Hstep
    have Hst:Hid (((l.take (k+1)).map (eroI q)).filter okI=out++[t]):=jX (by
     have:=Hstep.out;rw [Hout.out] at this;rw [this]
     simp)
    clear Hstep;rename World=>w5;go_upto_region 9 with (fail)
    refine wp_region_lit ?_;refine wV (fun K hK=>?_);go_simp;refine hK _ ?_;clear hK K;refine wX (v:=iv t) ⟨gt,0,none⟩ (HLt.out) (fun K hK=>?_);go_simp;refine hK _ ?_;clear hK K;obtain⟨ub,e6,v4,u4,hr4,ho4⟩:=OBI.app t HO5.out (by have:=Hlen.out;omega);refine yao (v:=.slice (some ⟨w5.heap.size,0,none⟩) 1 1) (by rfl) (yaJ 22 1 #[(0,.tmp 47)] #[(0,iv t)] _ rfl (by simp only [List.map_toArray,List.map_cons,List.map_nil];rfl) (ybd t _)) (fun K hK=>?_);rw [e6];clear e6;go_simp;refine hK _ _ ?_;clear hK K;refine yao (by rfl) (yaQ (.tmp 46) (.tmp 48) 22 _ _ _ rfl rfl rfl hr4) (fun K hK=>?_);go_simp;refine hK _ _ ?_;clear hK K hr4;have HN4:=jX ho4;obtain⟨no,nc,rfl⟩:=ho4.form;clear ho4;go_wp2_with fail;go_roundw
    case rel=>exact ⟨k+1,by omega,congrArg (Value.int .i64) (by omega),by rw [Hst.out];exact HN4.out⟩
    case measure=>simp [intOf];omega
   ·subst h
    cases b1 with
    | true =>
     simp only [Bool.not_true,Bool.false_and,Bool.and_false,Bool.or_false] at Hstep
     have Hst:Hid (((l.take (k+1)).map (eroI q)).filter okI=out):=jX (by
      have:=Hstep.out;rw [Hout.out] at this;rw [this]
      simp)
     clear Hstep;go_wp2_with fail;go_roundw
     case rel=>exact ⟨k+1,by omega,congrArg (Value.int .i64) (by omega),by rw [Hst.out];exact HO5.out⟩
     case measure=>simp [intOf];omega
    | false =>
     cases b2 with
     | false =>
      simp only [Bool.not_false,Bool.true_and,Bool.and_false,Bool.or_false] at Hstep
      have Hst:Hid (((l.take (k+1)).map (eroI q)).filter okI=out):=jX (by
       have:=Hstep.out;rw [Hout.out] at this;rw [this]
       simp)
      clear Hstep;go_wp2_with fail;go_roundw
      case rel=>exact ⟨k+1,by omega,congrArg (Value.int .i64) (by omega),by rw [Hst.out];exact HO5.out⟩
      case measure=>simp [intOf];omega
     | true =>
      simp only [Bool.not_false,Bool.true_and,Bool.and_true] at Hstep
      have Hst:Hid (((l.take (k+1)).map (eroI q)).filter okI=out++[t]):=jX (by
       have:=Hstep.out;rw [Hout.out] at this;rw [this]
       simp)
      clear Hstep;rename World=>w5;go_upto_region 9 with (fail)
      refine wp_region_lit ?_;refine wV (fun K hK=>?_);go_simp;refine hK _ ?_;clear hK K;refine wX (v:=iv t) ⟨gt,0,none⟩ (HLt.out) (fun K hK=>?_);go_simp;refine hK _ ?_;clear hK K;obtain⟨ub,e6,v4,u4,hr4,ho4⟩:=OBI.app t HO5.out (by have:=Hlen.out;omega);refine yao (v:=.slice (some ⟨w5.heap.size,0,none⟩) 1 1) (by rfl) (yaJ 22 1 #[(0,.tmp 47)] #[(0,iv t)] _ rfl (by simp only [List.map_toArray,List.map_cons,List.map_nil];rfl) (ybd t _)) (fun K hK=>?_);rw [e6];clear e6;go_simp;refine hK _ _ ?_;clear hK K;refine yao (by rfl) (yaQ (.tmp 46) (.tmp 48) 22 _ _ _ rfl rfl rfl hr4) (fun K hK=>?_);go_simp;refine hK _ _ ?_;clear hK K hr4;have HN4:=jX ho4;obtain⟨no,nc,rfl⟩:=ho4.form;clear ho4;go_wp2_with fail;go_roundw
      case rel=>exact ⟨k+1,by omega,congrArg (Value.int .i64) (by omega),by rw [Hst.out];exact HN4.out⟩
      case measure=>simp [intOf];omega
   have d1:decide (n<0)=false:=decide_eq_false (by omega);have d2:(n == 0)=false:=by rw [beq_eq_false_iff_ne];omega
   rw [d1,d2] at Hstep;simp only [Bool.false_and,Bool.or_false] at Hstep
   have Hst:Hid (((l.take (k+1)).map (eroI q)).filter okI=out):=jX (by
    have:=Hstep.out;rw [Hout.out] at this;rw [this]
    simp)
   clear Hstep;go_wp2_with fail;go_roundw
   case rel=>exact ⟨k+1,by omega,congrArg (Value.int .i64) (by omega),by rw [Hst.out];exact HO5.out⟩
   case measure=>simp [intOf];omega
  obtain rfl:k=l.length:=by omega
  rw [List.take_length] at Hout
  have HX:Hid (IvR wr (.slice oo out.length oc) ((l.map (eroI q)).filter okI)):=by
   have:=HO.out.read;rw [← Hout.out] at this ⊢;exact this
  have HB:=jX (HkW.out.bz.trans (Below.mono HO.out.keep HkW.out.size));have HN1:=jX (HN.out wr _ HX.out);clear HO HN HX;go_wp2_with fail;refine HN1.out.mono ?_;rintro e w6 ⟨v,rfl,hv,hk6,ht6⟩;dsimp only;have HV:=jX hv;have HT6:=jX ht6;clear ht6;have HB6:=jX (HB.out.trans (Below.mono hk6.bz HB.out.size));obtain⟨vo,vc,rfl,_⟩:=hv.form;clear hv hk6 HN1;go_wp2_with fail;go_ret
  exact ⟨_,rfl,HV.out,HB6.out,HT6.out⟩
end
end Go.Proofs.YtpgffjjpiafhpaaGreatDoor
