/- Parts of a proof: Rw Rx Ry Rz. -/
import Derived.Test.YtejegogbhpmgfaaGreatDoorG20
set_option linter.unusedVariables false
set_option linter.unusedSimpArgs false
set_option maxRecDepth 100000
set_option maxHeartbeats 8000000
namespace Go.Proofs.YtejegogbhpmgfaaGreatDoor
open Go.RowKit Tryz
theorem yjK {w:World} {v:Value} {xs ys:List Value} (h:RowR w v xs) (k:RowR w v ys):xs=ys:=by
 rcases h with ⟨rfl,rfl⟩|⟨g,o,c,rfl,hg,hc⟩
 ·rcases k with ⟨_,rfl⟩|⟨g,o,c,e,_⟩
  ·rfl
  cases e
 rcases k with ⟨e,_⟩|⟨g',o',c',e,_,hc'⟩
 ·cases e
 injection e with e1 e2 e3;injection e1 with e1;injection e1 with e1 e4;subst e1 e4;apply List.ext_getElem e2;intro i h1 h2;have a:=hc i _ (List.getElem?_eq_getElem h1);have b:=hc' i _ (List.getElem?_eq_getElem h2);rw [a] at b;injection b
theorem ints_inj {a b:List Nat} (h:ints a=ints b):a=b:=by
 unfold ints at h;induction a generalizing b with
 | nil=>cases b with
  | nil=>rfl
  | cons y b=>simp at h
 | cons x a ih=>cases b with
  | nil=>simp at h
  | cons y b =>
   simp only [List.map_cons,List.cons.injEq] at h
   have hxy:x=y:=by
    have:=h.1;injection this with _ h2;omega
   rw [hxy,ih h.2]
theorem dr_unique {w:World} {v:Value} {M N:Nat} (h:DR w v M) (k:DR w v N):M=N:=by
 have e:=ints_inj (yjK h.1 k.1);rw [← yca (B:=256) (by decide) M,e,yca (by decide)]
open Classical in
noncomputable def ydf (w:World) (v:Value):Nat:=if h:∃ N,DR w v N then h.choose else 0
theorem ycd {w:World} {v:Value} {N:Nat} (h:DR w v N):ydf w v=N:=by
 have hx:∃ N,DR w v N:=⟨N,h⟩;unfold ydf;rw [dif_pos hx];exact dr_unique hx.choose_spec h
theorem Ln_zero:Ln 0=0:=by unfold Ln;rw [yaU];rfl
theorem Ln_pos {N:Nat} (h:0<N):0<Ln N:=by
 rcases Nat.eq_zero_or_pos (Ln N) with h0|h0
 ·have:=Ln_lt N
  rw [h0] at this;omega
 exact h0
theorem yiH (w:World) (v1 v2:Value) (A B:Nat) (h1:DR w v1 A) (h2:DR w v2 B) (hA:Ln A≤100000000) (hB:Ln B≤100000000) :
  Calls prog 172 #[v1,v2] w (Digits w (Nat.gcd A B)):=by
 have H1:=jX h1;have H2:=jX h2;have HA:=jX hA;have HB:=jX hB;clear h1 h2 hA hB;go_enter func172,ntmps172
 go_wp2_with fail;go_loopw [0,1] (fun a b wr=>∃ X Y:Nat,Nat.gcd X Y=Nat.gcd A B∧DR wr a X∧DR wr b Y∧Keep [] w wr∧Ln X≤100000000∧Ln Y≤100000000) (fun _ b wr=>ydf wr b)
 case atStart=>exact ⟨A,B,rfl,H1.out,H2.out,Keep.refl _ _,HA.out,HB.out⟩
 case round =>
  obtain⟨X,Y,hg,ha,hb,hk,hX,hY⟩:=hrel;have Hg:=jX hg;have Ha:=jX ha;have Hb:=jX hb;have Hk:=jX hk;have Hm:=jX (ycd hb);obtain⟨ao,ac,rfl,_⟩:=ha.form;obtain⟨bo,bc,rfl,_⟩:=hb.form;clear hg ha hb hk;by_cases hY0:Y=0
  ·subst hY0
   have hl:=Ln_zero;rw [hl] at *;have hz:(0:Int)<((0:Nat):Int)↔False:=by simp
   go_wp2_with fail;go_ret
   exact ⟨_,rfl,by rw [← Hg.out,Nat.gcd_zero_right];exact Ha.out,Hk.out⟩
  have hp:=Ln_pos (show 0<Y by omega)
  have HD:=jX (yel wr _ _ X Y Ha.out Hb.out hX hY (by omega));have HY:=jX (show 0<Y by omega)
  have HXY:=jX (And.intro hX hY);obtain⟨m,hm⟩:∃ m,Ln Y=m:=⟨_,rfl⟩;rw [hm] at hp hY HD Hb Hm ⊢;have Hm2:=jX hm;clear hY0 hm;go_wp2_with fail;refine HD.out.mono ?_;rintro e w5 ⟨q,r,rfl,_,hr,hk5⟩;have Hr:=jX hr;have Hk5:=jX hk5;clear HD hr hk5;dsimp only;go_wp2_with fail;go_roundw
  case rel =>
   have h9:=Nat.mod_lt X HY.out;refine ⟨Y,X % Y,?_,?_,Hr.out,Hk.out.tz Hk5.out,HXY.out.2,?_⟩
   ·rw [← Hg.out,Nat.gcd_comm X Y,Nat.gcd_comm Y (X % Y),← Nat.gcd_rec]
   ·exact Hb.out.later Hk5.out
   exact Nat.le_trans (Ln_mono (Nat.le_of_lt h9)) HXY.out.2
  case measure =>
   have h9:=Nat.mod_lt X HY.out;rw [show ydf _ _=X % Y from ycd Hr.out,show ydf _ _=Y from Hm.out]
   exact h9
theorem Ln_mag (N:Nat):(magL N).length=Ln N:=by
 have h:∀ k,(magL N).length≤k↔Ln N≤k:=fun k=>by rw [Ln_le];exact yaO N k
 have h1:=(h _).1 (Nat.le_refl _);have h2:=(h _).2 (Nat.le_refl _);omega
theorem full_mag (N:Nat):strOfNums (bnum (Ln N) N (Ln N))=magS N:=by
 have h:=yiN (Ln N) N (Ln_lt N);have hl:(strOfNums (bnum (Ln N) N (Ln N))).data.toList.length=Ln N:=by rw [strOfNums_data,List.length_map,ydn]
 have hs:=List.dropWhile_suffix (l:=(strOfNums (bnum (Ln N) N (Ln N))).data.toList) (· == 0);have e:=hs.eq_of_length (by rw [h,Ln_mag,hl]);rw [h] at e;unfold magS;rw [e]
theorem yeZ (w:World) (v:Value) (neg:Bool) (N:Nat) (h:DR w v N) (hN:Ln N≤1000000000) :
  Calls prog 166 #[v,.bool neg] w fun e w'=>e = .returned (.agg #[.bool (neg&&decide (0<N)),.string (magS N)])∧Keep [] w w':=by
 have H:=jX h;obtain⟨vo,vc,rfl,_⟩:=h.form;clear h;have HN:=jX hN
 have hd0:decide (0<N)=decide (0<Ln N):=by
  by_cases h0:N=0
  ·subst h0;rw [Ln_zero]
  have:=Ln_pos (show 0<N by omega)
  have:0<N:=by omega
  simp [*]
 rw [hd0];have HF:=jX (full_mag N);go_enter func166,ntmps166
 go_wp2_with fail;obtain⟨W,ga,hW,ega,Bga,hga,hgW,HkW⟩:=al1h w (.cells #[.bool false,.string ⟨#[]⟩] 32);rw [← hW];try rw [ega]
 clear hW ega;obtain⟨pga,fga,lga⟩:=jQ Bga;have HT:=jX (ydl W (.slice vo (Ln N) vc) (digs 256 N) (by show Ln N≤_;omega) (H.out.later HkW.out).1 H.out.2)
 go_wp2_with fail;refine HT.out.mono ?_;rintro e w2 ⟨ht,hw2⟩;subst hw2;obtain⟨v',rfl,hdr⟩:=ybe ht (ygb (by decide) N);rw [yca (by decide)] at hdr;have Hdr:=jX hdr;obtain⟨ao,ac,rfl,_⟩:=hdr.form;clear ht hdr HT hd0;obtain⟨n,hn⟩:∃ n,Ln N=n:=⟨_,rfl⟩;have Hca:Hid (∀ i,i<n→∃ g o,ao=some ⟨g,o,none⟩∧g<w2.heap.size∧w2.cell? ⟨g,o+i,none⟩=some (.int .i64 ((N / 256 ^ i % 256:Nat):Int))):=fun i hi=>Hdr.out.cell (by omega);rw [hn] at HF hN ⊢;dsimp only;have hmk:=yfy w2 n N (by omega);have HNn:=jX hn;clear hn Hdr;go_wp2_with fail;clear hmk;go_loopw [6] (fun x wr=>∃ i:Nat,i≤n∧x = .int .i64 (i:Int)∧wr=w2.alloc (.cells (brow n N i) 5)) (fun x _=>n-(intOf x).toNat)
 case atStart=>exact ⟨0,by omega,rfl,rfl⟩
 case round =>
  obtain⟨i,hi,rfl,rfl⟩:=hrel;by_cases hlt:i<n
  ·obtain⟨g1,o1,rfl,hg1,c1⟩:=Hca.out i hlt
   have d9:=Nat.mod_lt (N / 256 ^ i) (show 0<256 by decide)
   have Hs:=jX (yiA n N i hlt);have hg:=yix n N i hlt;have e1:(((n:Int)-1-(i:Int)).toNat)=n-1-i:=by omega
   generalize N / 256 ^ i % 256=d at *;have hd1:(d:Int) % 256=(d:Int):=by omega
   go_wp2_with fail;go_roundw
   case rel=>exact ⟨i+1,by omega,by go_num,by rw [← Hs.out]⟩
   case measure=>simp [intOf];omega
  obtain rfl:i=n:=by omega
  have hbl:(bnum i N i).length=i:=ydn _ _ _
  have hconv:=run_convert_bytes_arg (P:=prog) (w2.alloc (.cells (brow i N i) 5)) 188 5 underlying188 underlying5 w2.heap.size 0 i i (bnum i N i) hbl (fun j hj=>by
   rw [Nat.zero_add,World.cell?_alloc_at _ _ _ _ rfl];unfold brow
   rw [List.getElem?_toArray,List.getElem?_map,List.getD_eq_getElem?_getD,List.getElem?_eq_getElem (by omega)];rfl) 9 underlying9
  rw [HF.out] at hconv;by_cases hp:0<i
  ·have hpd:decide (0<i)=true:=by simpa using hp
   have HPD:=jX hpd;cases neg
   ·go_wp2_with fail
    refine bodyPost_ret (v:=.agg #[.bool false,.string (magS N)]) ?_ rfl ⟨by rw [HNn.out,HPD.out];rfl,by repeat (first|(with_reducible exact HkW.out)|(refine Keep.sP ?_ _ _ _ (by omega))|(refine Keep.aP ?_ _)|(refine Keep.dP ?_))⟩;rw [yah rfl];go_simp
   go_wp2_with fail;refine bodyPost_ret (v:=.agg #[.bool true,.string (magS N)]) ?_ rfl ⟨by rw [HNn.out,HPD.out];rfl,by repeat (first|(with_reducible exact HkW.out)|(refine Keep.sP ?_ _ _ _ (by omega))|(refine Keep.aP ?_ _)|(refine Keep.dP ?_))⟩;rw [yah rfl];go_simp
  have hpd:decide (0<i)=false:=by simpa using hp
  have HPD:=jX hpd;cases neg
  ·go_wp2_with fail
   refine bodyPost_ret (v:=.agg #[.bool false,.string (magS N)]) ?_ rfl ⟨by rw [HNn.out,HPD.out];rfl,by repeat (first|(with_reducible exact HkW.out)|(refine Keep.sP ?_ _ _ _ (by omega))|(refine Keep.aP ?_ _)|(refine Keep.dP ?_))⟩;rw [yah rfl];go_simp
  go_wp2_with fail;refine bodyPost_ret (v:=.agg #[.bool false,.string (magS N)]) ?_ rfl ⟨by rw [HNn.out,HPD.out];rfl,by repeat (first|(with_reducible exact HkW.out)|(refine Keep.sP ?_ _ _ _ (by omega))|(refine Keep.aP ?_ _)|(refine Keep.dP ?_))⟩;rw [yah rfl];go_simp
theorem div_mk (neg:Bool) (A B:Nat) (hB:0<B):(Rat.divInt (mk neg A) (B:Int)).num=mk neg (A / Nat.gcd A B)∧(Rat.divInt (mk neg A) (B:Int)).den=B / Nat.gcd A B:=by
 have hg:Int.gcd (mk neg A) (B:Int)=Nat.gcd A B:=by unfold Int.gcd;rw [mk_abs];rfl
 have hn:(Rat.divInt (mk neg A) (B:Int)).num=mk neg A / (Int.gcd (mk neg A) (B:Int):Nat):=by
  rw [Rat.num_divInt,Int.sign_eq_one_of_pos (by omega),Int.one_mul,Int.gcd_comm]
 have hd:(Rat.divInt (mk neg A) (B:Int)).den=B / Nat.gcd A B:=by
  rw [Rat.den_divInt,if_neg (by omega),Int.gcd_comm,hg,Int.natAbs_natCast]
 refine ⟨?_,hd⟩;rw [hn,hg];cases neg
 ·rfl
 show -(A:Int) / ((Nat.gcd A B:Nat):Int) = -((A / Nat.gcd A B:Nat):Int)
 rw [Int.neg_ediv_of_dvd (Int.natCast_dvd_natCast.2 (Nat.gcd_dvd_left A B))];rfl
theorem ybX (w:World) (v1 v2:Value) (neg:Bool) (A B:Nat) (h1:DR w v1 A) (h2:DR w v2 B) (hA:Ln A≤100000000) (hB:Ln B≤100000000) (hB0:0<B) :
  Calls prog 138 #[.agg #[.bool neg,v1,v2]] w fun e w'=>e = .returned (rv (Rat.divInt (mk neg A) (B:Int)))∧Keep [] w w':=by
 obtain⟨hn,hd⟩:=div_mk neg A B hB0;have hg0:=Nat.gcd_pos_of_pos_right A hB0;have hgB:Nat.gcd A B≤B:=Nat.le_of_dvd hB0 (Nat.gcd_dvd_right A B);have hq1:Ln (A / Nat.gcd A B)≤100000000:=Nat.le_trans (Ln_mono (Nat.div_le_self _ _)) hA;have hq2:Ln (B / Nat.gcd A B)≤100000000:=Nat.le_trans (Ln_mono (Nat.div_le_self _ _)) hB;have hgl:Ln (Nat.gcd A B)≤100000000:=Nat.le_trans (Ln_mono hgB) hB
 have hr:rv (Rat.divInt (mk neg A) (B:Int)) = .agg #[.bool (neg&&decide (0<A / Nat.gcd A B)),.string (magS (A / Nat.gcd A B)),.bool false,.string (dnS (B / Nat.gcd A B))]:=by
  unfold rv;rw [hn,hd,mk_sg,ygM,show ∀ x:Nat,decide (x≠0)=decide (0<x) from fun x=>by simp [Nat.pos_iff_ne_zero]]
 rw [hr];have H1:=jX h1;have H2:=jX h2;have HL:=jX (And.intro hA (And.intro hB (And.intro hq1 (And.intro hq2 hgl))));have HG0:=jX hg0;obtain⟨ao,ac,rfl,_⟩:=h1.form;obtain⟨bo,bc,rfl,_⟩:=h2.form;have HC:Hid (∀ w',Keep [] w w'→Calls prog 172 #[.slice ao (Ln A) ac,.slice bo (Ln B) bc] w' (Digits w' (Nat.gcd A B))):=fun w' hk=>yiH w' _ _ A B (H1.out.later hk) (H2.out.later hk) hA hB;clear hr hn hd h1 h2 hgB hA hB hB0 hg0 hq1 hq2 hgl;generalize Nat.gcd A B=G at *;go_enter func138,ntmps138
 go_wp2_with fail;obtain⟨W,ga,gb,hW,ega,egb,Bga,Bgb,hga,hgb,hgW,HkW⟩:=al2h w (.cells #[.bool neg,.slice ao (Ln A) ac,.slice bo (Ln B) bc] 135) (.cells #[.bool false,.string ⟨#[]⟩,.bool false,.string ⟨#[]⟩] 34);rw [← hW];try rw [egb]
 try rw [ega]
 clear hW ega egb;obtain⟨pga,fga,lga⟩:=jQ Bga;go_wp2_with fail;refine (HC.out W HkW.out).mono ?_;rintro e w3 ⟨gv,rfl,hgd,hk_w3⟩;have Hgd:=jX hgd;obtain⟨go,gc,rfl,_⟩:=hgd.form;dsimp only;clear pga fga lga HC hgd;replace Bga:=jH hk_w3 Bga;replace Bgb:=jH hk_w3 Bgb;replace HkW:=jX (HkW.out.tz hk_w3);clear hk_w3;obtain⟨pga,fga,lga⟩:=jQ Bga;have HD1:=jX (yel w3 _ _ A G (H1.out.later HkW.out) Hgd.out HL.out.1 HL.out.2.2.2.2 HG0.out);go_wp2_with fail;refine HD1.out.mono ?_;rintro e w4 ⟨q1,r1,rfl,hq1,_,hk_w4⟩;have Hq1:=jX hq1;have Hgd:=jX (Hgd.out.later hk_w4);obtain⟨xo,xc,rfl,_⟩:=hq1.form;dsimp only;clear pga fga lga HD1 hq1;replace Bga:=jH hk_w4 Bga;replace Bgb:=jH hk_w4 Bgb;replace HkW:=jX (HkW.out.tz hk_w4);clear hk_w4;obtain⟨pga,fga,lga⟩:=jQ Bga;have HD2:=jX (yel w4 _ _ B G (H2.out.later HkW.out) Hgd.out HL.out.2.1 HL.out.2.2.2.2 HG0.out);go_wp2_with fail;refine HD2.out.mono ?_;rintro e w5 ⟨q2,r2,rfl,hq2,_,hk_w5⟩;have Hq2:=jX hq2;have Hq1:=jX (Hq1.out.later hk_w5);obtain⟨yo,yc,rfl,_⟩:=hq2.form;dsimp only;clear pga fga lga HD2 hq2;replace Bga:=jH hk_w5 Bga;replace Bgb:=jH hk_w5 Bgb;replace HkW:=jX (HkW.out.tz hk_w5);clear hk_w5;obtain⟨pga,fga,lga⟩:=jQ Bga;have HW1:=jX (yeZ w5 _ neg (A / G) Hq1.out (by have:=HL.out.2.2.1;omega));have HLy:=jX HL.out.2.2.2.1;clear HL HG0 H1 H2;have HLY:Hid (Ln (B / G)≤100000000):=HLy.out;generalize hX:A / G=X at *;generalize hYe:B / G=Y at *;generalize hsx:(neg&&decide (0<X))=sx at *;generalize hmx:magS X=mx at *;have HX:=jX hX;have HYe:=jX hYe;have HSx:=jX hsx;have HMx:=jX hmx;clear hX hYe hsx hmx;by_cases hY:Y=1
 ·subst hY
  have hd1:dnS 1=⟨#[]⟩:=ycB rfl;have HD1:=jX hd1
  have hL1:Ln 1=1:=by
   have a:Ln 1≤1:=Ln_le.2 (by decide);have b:=Ln_pos (show 0<1 by decide)
   omega
  obtain⟨g1,o1,rfl,hg1,c1⟩:=Hq2.out.cell (i:=0) (by omega);rw [hL1] at *;rw [Nat.add_zero] at c1;have c2:w5.cell? ⟨g1,o1,none⟩=some (.int .i64 1):=c1;clear c1 hL1 hd1;go_wp2_with fail;refine HW1.out.mono ?_;rintro e w6 ⟨rfl,hk_w6⟩;have HW2:=jX (yeZ w6 _ false 0 (yig w6) (by rw [Ln_zero];omega));dsimp only;clear HW1 pga fga lga;replace Bga:=jH hk_w6 Bga;replace Bgb:=jH hk_w6 Bgb;replace HkW:=jX (HkW.out.tz hk_w6);clear hk_w6;go_wp2_with fail;refine HW2.out.mono ?_;rintro e w7 ⟨rfl,hk_w7⟩;rw [magS_zero];dsimp only;clear HW2;replace Bga:=jH hk_w7 Bga;replace Bgb:=jH hk_w7 Bgb;replace HkW:=jX (HkW.out.tz hk_w7);clear hk_w7;obtain⟨pgb,fgb,lgb⟩:=jQ Bgb;go_wp2_with fail;refine bodyPost_ret (v:=.agg #[.bool sx,.string mx,.bool false,.string ⟨#[]⟩]) ?_ rfl ⟨by rw [HYe.out,HX.out,HSx.out,HMx.out,HD1.out],by repeat (first|(with_reducible exact HkW.out)|(refine Keep.sP ?_ _ _ _ (by omega))|(refine Keep.aP ?_ _)|(refine Keep.dP ?_))⟩;rw [yah rfl];go_simp
 have hd1:dnS Y=magS Y:=yeN hY;have HD1:=jX hd1;clear hd1;by_cases hL:Ln Y=1
 ·obtain⟨g1,o1,rfl,hg1,c1⟩:=Hq2.out.cell (i:=0) (by omega)
  have hy9:Y<256:=by have:=Ln_lt Y;rw [hL] at this;simpa using this
  rw [Nat.add_zero,Nat.pow_zero,Nat.div_one,Nat.mod_eq_of_lt hy9] at c1;rw [hL] at *;have hy1:((Y:Int) == 1)=false:=by rw [beq_eq_false_iff_ne];omega
  clear hL;go_wp2_with fail;refine HW1.out.mono ?_;rintro e w6 ⟨rfl,hk_w6⟩;have HW2:=jX (yeZ w6 _ false Y (Hq2.out.later hk_w6) (by have:=HLY.out;omega));rw [Bool.false_and] at HW2;dsimp only;clear HW1 pga fga lga;replace Bga:=jH hk_w6 Bga;replace Bgb:=jH hk_w6 Bgb;replace HkW:=jX (HkW.out.tz hk_w6);clear hk_w6;go_wp2_with fail;refine HW2.out.mono ?_;rintro e w7 ⟨rfl,hk_w7⟩;dsimp only;clear HW2;replace Bga:=jH hk_w7 Bga;replace Bgb:=jH hk_w7 Bgb;replace HkW:=jX (HkW.out.tz hk_w7);clear hk_w7;obtain⟨pgb,fgb,lgb⟩:=jQ Bgb;go_wp2_with fail;refine bodyPost_ret (v:=.agg #[.bool sx,.string mx,.bool false,.string (magS Y)]) ?_ rfl ⟨by rw [HYe.out,HX.out,HSx.out,HMx.out,HD1.out],by repeat (first|(with_reducible exact HkW.out)|(refine Keep.sP ?_ _ _ _ (by omega))|(refine Keep.aP ?_ _)|(refine Keep.dP ?_))⟩;rw [yah rfl];go_simp
 have hl1:((Ln Y:Int) == 1)=false:=by rw [beq_eq_false_iff_ne];omega
 clear hL;go_wp2_with fail;refine HW1.out.mono ?_;rintro e w6 ⟨rfl,hk_w6⟩;have HW2:=jX (yeZ w6 _ false Y (Hq2.out.later hk_w6) (by have:=HLY.out;omega));rw [Bool.false_and] at HW2;dsimp only;clear HW1 pga fga lga;replace Bga:=jH hk_w6 Bga;replace Bgb:=jH hk_w6 Bgb;replace HkW:=jX (HkW.out.tz hk_w6);clear hk_w6;go_wp2_with fail;refine HW2.out.mono ?_;rintro e w7 ⟨rfl,hk_w7⟩;dsimp only;clear HW2;replace Bga:=jH hk_w7 Bga;replace Bgb:=jH hk_w7 Bgb;replace HkW:=jX (HkW.out.tz hk_w7);clear hk_w7;obtain⟨pgb,fgb,lgb⟩:=jQ Bgb;go_wp2_with fail;refine bodyPost_ret (v:=.agg #[.bool sx,.string mx,.bool false,.string (magS Y)]) ?_ rfl ⟨by rw [HYe.out,HX.out,HSx.out,HMx.out,HD1.out],by repeat (first|(with_reducible exact HkW.out)|(refine Keep.sP ?_ _ _ _ (by omega))|(refine Keep.aP ?_ _)|(refine Keep.dP ?_))⟩;rw [yah rfl];go_simp
theorem yfO (n:Bool) (s:ByteArray) (hs:s.size≤1000000000000) (w:World) :
  Calls prog 167 #[.agg #[.bool n,.string s]] w (DigitsN w (natB s)):=by
 obtain⟨i0,hi,hz0,hz1,hz2⟩:=yaQ infoInt;have Hi:=jX (And.intro hi (And.intro hz0 (And.intro hz1 hz2)));clear hi hz0 hz1 hz2;go_enter func167,ntmps167
 go_wp2_with fail;obtain⟨W,ga,hW,ega,Bga,hga,hgW,HkW⟩:=al1h w (.cells #[.bool n,.string s] 32);rw [← hW];try rw [ega]
 clear hW ega;obtain⟨pga,fga,lga⟩:=jQ Bga;go_wp2_with fail;go_loopw [3,4] (fun b i wr=>∃ k:Nat,k≤s.size∧i = .int .i64 ((s.size:Int)-1-(k:Int))∧∃ l,l=(revB s).take k∧OI W wr b l) (fun _ i _=>(intOf i+1).toNat)
 case atStart=>exact ⟨0,by omega,congrArg (Value.int .i64) (by omega),_,rfl,OI.nil _⟩
 case round =>
  obtain⟨k,hk,rfl,l,hl,hoi⟩:=hrel;have Bga2:=jX (hoi.keep.heap Bga.out (by simp));have pga2:=yaa Bga2.out;have Hrow:=jX hoi;have hll:l.length=k:=by rw [hl,List.length_take,ybN];omega
  have hl9:l.length≤1000000000000:=by omega
  clear hll;obtain⟨po,pc,rfl⟩:=hoi.form;have Hl:=jX hl;clear hl hoi;by_cases hlt:k<s.size
  ·have hix:=fun w=>yfq w s k hlt
   have hrt:=yhi s k hlt;rw [← Hl.out] at hrt;have Hrt:=jX hrt;have hgw:=yab Bga2.out;have hd9:(s[s.size-1-k]'(by omega)).toNat≤255:=by have:=UInt8.toNat_lt (s[s.size-1-k]'(by omega));omega
   generalize (s[s.size-1-k]'(by omega)).toNat=d at *;clear hrt;go_wp2_with (at_builtin;refine yao _ rfl _ _ 133 rfl 3 i0 _ 1 8 underlying133 Hi.out.1 Hi.out.2.1 Hi.out.2.2.1 Hi.out.2.2.2 rfl (by decide) _ _ _ rfl (yay Hrow.out.row (Keep.alloc [] _ _) (by simp)) ⟨wr.heap.size,0,none⟩ 1 1 [.int .i64 (d)] rfl rfl (yaR _ _ _) ?c2 (by decide) ?c3 ?c4 ?_)
   case c2=>first|(intro u hu;simp at hu;subst hu;rfl)|rfl
   case c3=>unfold maxLen;omega
   case c4=>omega
   intro g cap wa hoa hga hfa hda;have Hn:=jX (Hrow.out.step hoa hga hfa hda);clear hoa hga hfa hda;go_wp2_with fail;go_roundw
   case rel=>exact ⟨k+1,by omega,congrArg (Value.int .i64) (by omega),_,Hrt.out.symm,Hn.out⟩
   case measure=>simp [intOf];omega
  obtain rfl:k=s.size:=by omega
  have hfull:l=revB s:=by rw [Hl.out,List.take_of_length_le (by rw [ybN];omega)]
  have HT:=jX (yiF wr _ l (by omega) Hrow.out.read Hrow.out.cap);have Hf:=jX hfull;clear hfull;go_wp2_with fail;refine HT.out.mono ?_;rintro e w2 ⟨ht,rfl,hat⟩;obtain⟨v,rfl,hdr⟩:=ybe ht (by rw [Hf.out];exact revB_lt s);rw [Hf.out,yit] at hdr;have Hdr:=jX hdr;have Hat:=jX (hat v rfl);clear ht hdr HT hat;dsimp only;go_wp2_with fail;go_ret
  exact ⟨v,rfl,Hdr.out,HkW.out.tz Hrow.out.keep,fun g hg=>Nat.le_trans HkW.out.size (Hrow.out.base g (by rw [← Hat.out];exact hg))⟩
theorem digs_one:digs 256 1=[1]:=by rw [ybl (by decide) (by decide)];simp [yaU]
theorem dr_one (w:World):DR (w.alloc (.cells #[.int .i64 1] 3)) (.slice (some ⟨w.heap.size,0,none⟩) 1 1) 1:=by
 refine ⟨?_,yhV (yew w (.int .i64 1))⟩;rw [digs_one];exact RowR.of_own (yew w (.int .i64 1))
def FracPost (w0:World) (q:Rat) (e:Ending) (w':World):Prop:=∃ v1 v2,e = .returned (.agg #[.bool (sgB q.num),v1,v2])∧DR w' v1 q.num.natAbs∧DR w' v2 q.den∧Keep [] w0 w'
theorem of_c (w:World) (q:Rat) (hn:(mgS q.num).size≤100000000) (hd:(dnS q.den).size≤100000000) :
  Calls prog 136 #[rv q] w (FracPost w q):=by
 have HN:Hid (∀ w',Calls prog 167 #[.agg #[.bool (sgB q.num),.string (mgS q.num)]] w' (DigitsN w' q.num.natAbs)):=fun w'=>by
  have:=yfO (sgB q.num) (mgS q.num) (by omega) w';rwa [yaK] at this
 have HD:Hid (∀ w',Calls prog 167 #[.agg #[.bool false,.string (dnS q.den)]] w' (DigitsN w' (natB (dnS q.den)))):=fun w'=>yfO false (dnS q.den) (by omega) w';by_cases h1:q.den=1
 ·have hdn:natB (dnS q.den)=0:=by rw [h1,ycB rfl];rfl
  rw [hdn] at HD;have hl0:((0:Int) == 0)=true:=rfl;unfold rv;have HQ:Hid (∀ v1 v2 w',DR w' v1 q.num.natAbs→DR w' v2 1→Keep [] w w'→FracPost w q (.returned (.agg #[.bool (sgB q.num),v1,v2])) w'):=fun v1 v2 w' a b c=>⟨v1,v2,rfl,a,by rw [h1];exact b,c⟩;generalize hP:FracPost w q=P at *;generalize sgB q.num=ng at *;generalize mgS q.num=sn at *;generalize dnS q.den=sd at *;generalize q.num.natAbs=A at *;generalize q.den=B at *;clear h1 hdn hn hd hP;go_enter func136,ntmps136
  go_wp2_with fail;obtain⟨W,ga,gb,hW,ega,egb,Bga,Bgb,hga,hgb,hgW,HkW⟩:=al2h w (.cells #[.bool ng,.string sn,.bool false,.string sd] 34) (.cells #[.bool false,.slice none 0 0,.slice none 0 0] 135);rw [← hW];try rw [egb]
  try rw [ega]
  clear hW ega egb;obtain⟨pga,fga,lga⟩:=jQ Bga;go_wp2_with fail;refine (HD.out _).mono ?_;rintro e w3 ⟨dv,rfl,hdd,hk_w3,hnd⟩;clear hnd;obtain⟨yo,yc,rfl,_⟩:=hdd.form;rw [Ln_zero];dsimp only;clear pga fga lga HD hdd;replace Bga:=jH hk_w3 Bga;replace Bgb:=jH hk_w3 Bgb;replace HkW:=jX (HkW.out.tz hk_w3);clear hk_w3;go_wp2_with fail;have Hdd:=jX (dr_one w3)
  have HND:Hid (∀ g,(Value.slice (some ⟨w3.heap.size,0,none⟩) 1 1).ownBlock=some g→g≠gb):=fun g hg=>by
   have:=yab Bgb.out;simp [Value.ownBlock] at hg;omega
  have hk_w4:=Keep.alloc [] w3 (.cells #[.int .i64 1] 3);generalize w3.alloc (.cells #[.int .i64 1] 3)=w4 at *;generalize w3.heap.size=b3 at *;replace Bga:=jH hk_w4 Bga;replace Bgb:=jH hk_w4 Bgb;replace HkW:=jX (HkW.out.tz hk_w4);clear hk_w4
  have HSk:Hid (∀ W',Keep [] w4 W'→(W'.cell? ⟨ga,0,none⟩=some (.bool ng)∧W'.cell? ⟨ga,1,none⟩=some (.string sn))):=fun W' hk=>by
   have:=hk.heap Bga.out (by simp);exact ⟨by rw [yaa this];rfl,by rw [yaa this];rfl⟩
  refine yaj (S:=fun W'=>W'.cell? ⟨ga,0,none⟩=some (.bool ng)∧W'.cell? ⟨ga,1,none⟩=some (.string sn)) 8 (by kernel_rfl) (by kernel_rfl) (fun _ _ d _ _ h=>by cases d<;>exact h) ?_;have hk0:=Keep.drew [] w4;have hS0:=HSk.out _ hk0;have hl0:=yab (hk0.heap Bga.out (by simp));have hl1:=yab (hk0.heap Bgb.out (by simp));generalize World.drew w4=u0 at *;refine' jV (v:=_) 0 hS0 (fun w hw=>?hB0) (fun K hK=>?kB0)
  case hB0=>(have hw:=hw;go_simp;try rfl)
  go_simp;refine hK _ ?_;clear hK K;refine' jV (v:=_) 1 hS0 (fun w hw=>?hB1) (fun K hK=>?kB1)
  case hB1=>(have hw:=hw;go_simp;try rfl)
  go_simp;refine hK _ ?_;clear hK K;refine' jV (v:=_) 2 hS0 (fun w hw=>?hB2) (fun K hK=>?kB2)
  case hB2=>(have hw:=hw;go_simp;try rfl)
  go_simp;refine hK _ ?_;clear hK K;refine' jV (v:=_) 3 hS0 (fun w hw=>?hB3) (fun K hK=>?kB3)
  case hB3=>(have hw:=hw;go_simp;try rfl)
  go_simp;refine hK _ ?_;clear hK K;refine' jV (v:=_) 4 hS0 (fun w hw=>?hB4) (fun K hK=>?kB4)
  case hB4=>(have hw:=hw;go_simp;try rfl)
  go_simp;refine hK _ ?_;clear hK K;refine' jV (v:=_) 6 hS0 (fun w hw=>?hB6) (fun K hK=>?kB6)
  case hB6=>(have hw:=hw;go_simp;try rfl)
  go_simp;refine hK _ ?_;clear hK K;refine jO 5 (fun K hK=>?_);refine yae 167 #[.agg #[.bool ng,.string sn]] (by go_simp) ?_;refine (HN.out _).mono ?_;rintro e u1 ⟨z1,rfl,hd1,hk1,hnz⟩;have HNZ:Hid (∀ g,z1.ownBlock=some g→g≠gb):=fun g hg=>by have:=hnz g hg;omega
  clear hnz;have hk2:=hk0.tz hk1;have hS0:=HSk.out _ hk2;have Hd1:=jX hd1;obtain⟨zo,zc,rfl,_⟩:=hd1.form;refine ⟨_,rfl,?_⟩;refine hK _ _ hS0 ?_;clear hK K;refine' jV (v:=_) 7 hS0 (fun w hw=>?hB7) (fun K hK=>?kB7)
  case hB7=>(have hw:=hw;go_simp;try rfl)
  go_simp;refine hK _ ?_;clear hK K;refine ⟨by kernel_rfl,?_⟩;simp only [List.drop_succ_cons,List.drop_zero];have Hdd:=jX (Hdd.out.later hk2);clear hd1 hk0 hk1 HSk;replace Bga:=jH hk2 Bga;replace Bgb:=jH hk2 Bgb;replace HkW:=jX (HkW.out.tz hk2);clear hk2;obtain⟨pgb,fgb,lgb⟩:=jQ Bgb;go_wp2_with fail
  have hpst:∀ {v:Value} {N:Nat},DR u1 v N→(∀ g,v.ownBlock=some g→g≠gb)→DR (((u1.setCell ⟨gb,0,none⟩ (.bool ng)).setCell ⟨gb,1,none⟩ (.slice zo (Ln A) zc)).setCell ⟨gb,2,none⟩ (.slice (some ⟨b3,0,none⟩) 1 1)) v N:=fun h1 h2 =>
   ((h1.past (Keep.setCell _ _ _ _ _ (by simp)) h2).past (Keep.setCell _ _ _ _ _ (by simp)) h2).past (Keep.setCell _ _ _ _ _ (by simp)) h2
  refine bodyPost_ret (v:=.agg #[.bool ng,.slice zo (Ln A) zc,.slice (some ⟨b3,0,none⟩) 1 1]) ?_ rfl (HQ.out _ _ _ (hpst Hd1.out HNZ.out) (hpst Hdd.out HND.out) (by repeat (first|(with_reducible exact HkW.out)|(refine Keep.sP ?_ _ _ _ (by omega))|(refine Keep.aP ?_ _)|(refine Keep.dP ?_))));rw [yah rfl];go_simp
 have hdn:natB (dnS q.den)=q.den:=by rw [yeN h1,yaw]
 rw [hdn] at HD;have hLd:=Ln_pos q.den_pos;have hl0:((Ln q.den:Int) == 0)=false:=by rw [beq_eq_false_iff_ne];omega
 unfold rv;have HQ:Hid (∀ v1 v2 w',DR w' v1 q.num.natAbs→DR w' v2 q.den→Keep [] w w'→FracPost w q (.returned (.agg #[.bool (sgB q.num),v1,v2])) w'):=fun v1 v2 w' a b c=>⟨v1,v2,rfl,a,b,c⟩;generalize hP:FracPost w q=P at *;generalize sgB q.num=ng at *;generalize mgS q.num=sn at *;generalize dnS q.den=sd at *;generalize q.num.natAbs=A at *;generalize q.den=B at *;clear h1 hdn hn hd hP;go_enter func136,ntmps136
 go_wp2_with fail;obtain⟨W,ga,gb,hW,ega,egb,Bga,Bgb,hga,hgb,hgW,HkW⟩:=al2h w (.cells #[.bool ng,.string sn,.bool false,.string sd] 34) (.cells #[.bool false,.slice none 0 0,.slice none 0 0] 135);rw [← hW];try rw [egb]
 try rw [ega]
 clear hW ega egb;obtain⟨pga,fga,lga⟩:=jQ Bga;go_wp2_with fail;refine (HD.out _).mono ?_;rintro e w3 ⟨dv,rfl,hdd,hk_w3,hnd⟩;have HND:Hid (∀ g,dv.ownBlock=some g→g≠gb):=fun g hg=>by have:=hnd g hg;have:=yab Bgb.out;omega
 clear hnd;have Hdd:=jX hdd;obtain⟨xo,xc,rfl,_⟩:=hdd.form;dsimp only;clear pga fga lga HD hdd;replace Bga:=jH hk_w3 Bga;replace Bgb:=jH hk_w3 Bgb;replace HkW:=jX (HkW.out.tz hk_w3);clear hk_w3;go_wp2_with fail
 have HSk:Hid (∀ W',Keep [] w3 W'→(W'.cell? ⟨ga,0,none⟩=some (.bool ng)∧W'.cell? ⟨ga,1,none⟩=some (.string sn))):=fun W' hk=>by
  have:=hk.heap Bga.out (by simp);exact ⟨by rw [yaa this];rfl,by rw [yaa this];rfl⟩
 refine yaj (S:=fun W'=>W'.cell? ⟨ga,0,none⟩=some (.bool ng)∧W'.cell? ⟨ga,1,none⟩=some (.string sn)) 8 (by kernel_rfl) (by kernel_rfl) (fun _ _ d _ _ h=>by cases d<;>exact h) ?_;have hk0:=Keep.drew [] w3;have hS0:=HSk.out _ hk0;have hl0:=yab (hk0.heap Bga.out (by simp));have hl1:=yab (hk0.heap Bgb.out (by simp));generalize World.drew w3=u0 at *;refine' jV (v:=_) 0 hS0 (fun w hw=>?hA0) (fun K hK=>?kA0)
 case hA0=>(have hw:=hw;go_simp;try rfl)
 go_simp;refine hK _ ?_;clear hK K;refine' jV (v:=_) 1 hS0 (fun w hw=>?hA1) (fun K hK=>?kA1)
 case hA1=>(have hw:=hw;go_simp;try rfl)
 go_simp;refine hK _ ?_;clear hK K;refine' jV (v:=_) 2 hS0 (fun w hw=>?hA2) (fun K hK=>?kA2)
 case hA2=>(have hw:=hw;go_simp;try rfl)
 go_simp;refine hK _ ?_;clear hK K;refine' jV (v:=_) 3 hS0 (fun w hw=>?hA3) (fun K hK=>?kA3)
 case hA3=>(have hw:=hw;go_simp;try rfl)
 go_simp;refine hK _ ?_;clear hK K;refine' jV (v:=_) 4 hS0 (fun w hw=>?hA4) (fun K hK=>?kA4)
 case hA4=>(have hw:=hw;go_simp;try rfl)
 go_simp;refine hK _ ?_;clear hK K;refine' jV (v:=_) 6 hS0 (fun w hw=>?hA6) (fun K hK=>?kA6)
 case hA6=>(have hw:=hw;go_simp;try rfl)
 go_simp;refine hK _ ?_;clear hK K;refine jO 5 (fun K hK=>?_);refine yae 167 #[.agg #[.bool ng,.string sn]] (by go_simp) ?_;refine (HN.out _).mono ?_;rintro e u1 ⟨z1,rfl,hd1,hk1,hnz⟩;have HNZ:Hid (∀ g,z1.ownBlock=some g→g≠gb):=fun g hg=>by have:=hnz g hg;omega
 clear hnz;have hk2:=hk0.tz hk1;have hS0:=HSk.out _ hk2;have Hd1:=jX hd1;obtain⟨zo,zc,rfl,_⟩:=hd1.form;refine ⟨_,rfl,?_⟩;refine hK _ _ hS0 ?_;clear hK K;refine' jV (v:=_) 7 hS0 (fun w hw=>?hA7) (fun K hK=>?kA7)
 case hA7=>(have hw:=hw;go_simp;try rfl)
 go_simp;refine hK _ ?_;clear hK K;refine ⟨by kernel_rfl,?_⟩;simp only [List.drop_succ_cons,List.drop_zero];have Hdd:=jX (Hdd.out.later hk2);clear hd1 hk0 hk1 HSk;replace Bga:=jH hk2 Bga;replace Bgb:=jH hk2 Bgb;replace HkW:=jX (HkW.out.tz hk2);clear hk2;obtain⟨pgb,fgb,lgb⟩:=jQ Bgb;go_wp2_with fail
 have hpst:∀ {v:Value} {N:Nat},DR u1 v N→(∀ g,v.ownBlock=some g→g≠gb)→DR (((u1.setCell ⟨gb,0,none⟩ (.bool ng)).setCell ⟨gb,1,none⟩ (.slice zo (Ln A) zc)).setCell ⟨gb,2,none⟩ (.slice (xo) (Ln B) xc)) v N:=fun h1 h2 =>
  ((h1.past (Keep.setCell _ _ _ _ _ (by simp)) h2).past (Keep.setCell _ _ _ _ _ (by simp)) h2).past (Keep.setCell _ _ _ _ _ (by simp)) h2
 refine bodyPost_ret (v:=.agg #[.bool ng,.slice zo (Ln A) zc,.slice (xo) (Ln B) xc]) ?_ rfl (HQ.out _ _ _ (hpst Hd1.out HNZ.out) (hpst Hdd.out HND.out) (by repeat (first|(with_reducible exact HkW.out)|(refine Keep.sP ?_ _ _ _ (by omega))|(refine Keep.aP ?_ _)|(refine Keep.dP ?_))));rw [yah rfl];go_simp
end Go.Proofs.YtejegogbhpmgfaaGreatDoor
