/- Parts of a proof: Ie Yb Vb Mb Vk Vi Me Mi. -/
import Derived.IntWalk
import Derived.Lib.SliceRun
import Derived.Test.YtejegogbhpmgfaaGreatDoorG37
import Derived.Test.YtejegogbhpmgfaaGreatDoorG36
import Derived.Test.YtejegogbhpmgfaaGreatDoorG35
import Derived.Test.YtejegogbhpmgfaaGreatDoorG24
import Derived.Test.YtejegogbhpmgfaaGreatDoorG32
set_option linter.unusedVariables false
set_option linter.unusedSimpArgs false
set_option maxRecDepth 100000
set_option maxHeartbeats 8000000
namespace Go.Proofs.YtejegogbhpmgfaaGreatDoor
open Go.RowKit Tryz
section
open Classical
theorem chkL_from:∀ (l:List RawI) (b:Iv K),chkL (some b) l=0→∃ D:List (Iv K),l=D.map RawI.of∧NormF D b.l
 | [],b,_=>⟨[],rfl,trivial⟩
 | r :: l,b,h=>by
  have he:eI r=0:=Classical.byContradiction fun hn=>hn (by rw [← yfV hn (some b) l];exact h);obtain⟨i,rfl,hv⟩:=yfQ he;rw [yfb hv] at h;split at h
  ·exact absurd h (by decide)
  rename_i h1;split at h
  ·exact absurd h (by decide)
  rename_i h2;obtain⟨D,hD,hN⟩:=chkL_from l i h;exact ⟨i :: D,by rw [List.map_cons,hD],by grind,hv,hN⟩
theorem yge {l:List RawI} (h:chkL none l=0):∃ D:List (Iv K),l=D.map RawI.of∧Norm D:=by
 cases l with
 | nil=>exact ⟨[],rfl,trivial⟩
 | cons r l =>
  have he:eI r=0:=Classical.byContradiction fun hn=>hn (by rw [← yfV hn none l];exact h);obtain⟨i,rfl,hv⟩:=yfQ he;rw [ydS hv] at h;obtain⟨D,hD,hN⟩:=chkL_from l i h;exact ⟨i :: D,by rw [List.map_cons,hD],hv,hN⟩
theorem chkL_from':∀ (D:List (Iv K)) (b:Iv K),NormF D b.l→chkL (some b) (D.map RawI.of)=0
 | [],_,_=>rfl
 | i :: D,b,h=>by
  obtain⟨h1,h2,h3⟩:=h;rw [List.map_cons,yfb h2,if_neg,if_neg,chkL_from' D i h3]
  ·intro h
   rw [h] at h1;grind
  rintro (h|h)
  ·have:=h1
   rw [Bd.lt_def] at this;grind
  grind
theorem yhj {D:List (Iv K)} (h:Norm D):chkL none (D.map RawI.of)=0:=by
 cases D with
 | nil=>rfl
 | cons i D=>rw [List.map_cons,ydS h.1,chkL_from' D i h.2]
theorem yiJ {d k:Nat} (h:Fit k (d:Int)):(dnS d).size≤k:=by
 unfold dnS;split
 ·exact Nat.zero_le _
 unfold Fit mgS at h;rwa [Int.natAbs_natCast] at h
theorem yik (i:Iv K):(RawI.of i).sz 100000 :=
 ⟨⟨i.f.pt.2.2.1.1,yiJ i.f.pt.2.2.1.2,i.f.pt.2.2.2.1,yiJ i.f.pt.2.2.2.2⟩,⟨i.l.pt.2.2.1.1,yiJ i.l.pt.2.2.1.2,i.l.pt.2.2.2.1,yiJ i.l.pt.2.2.2.2⟩⟩
theorem iv_rir {w:World} {v:Value} {D:List (Iv K)} (h:IvR w v D):RIR w v (D.map RawI.of):=by
 rcases h with ⟨h1,h2⟩|⟨g,o,c,h1,h2,h3,h4⟩
 ·exact .inl ⟨h1,by rw [h2];rfl⟩
 refine .inr ⟨g,o,c,by rw [h1,List.length_map],by rw [List.length_map];exact h2,h3,fun i v hv=>h4 i v ?_⟩;rw [List.flatMap_map] at hv;exact hv
theorem map_of_inj:∀ {D T:List (Iv K)},D.map RawI.of=T.map RawI.of→D=T
 | [],[],_=>rfl
 | [],_ :: _,h=>by cases h
 | _ :: _,[],h=>by cases h
 | i :: D,j :: T,h=>by
  rw [List.map_cons,List.map_cons] at h;injection h with h1 h2;rw [RawI.of_inj h1,map_of_inj h2]
theorem yeI {w:World} {v:Value} {D:List (Iv K)} (h:RIR w v (D.map RawI.of)):IvR w v D:=by
 rcases h with ⟨h1,h2⟩|⟨g,o,c,h1,h2,h3,h4⟩
 ·exact .inl ⟨h1,List.map_eq_nil_iff.1 h2⟩
 refine .inr ⟨g,o,c,by rw [h1,List.length_map],by rw [List.length_map] at h2;exact h2,h3,fun i v hv=>h4 i v ?_⟩;rw [List.flatMap_map];exact hv
theorem RIR.riq {w:World} {v:Value} {l:List RawI} (h:RIR w v l):RIQ w v l:=by
 obtain⟨a,c,h1,_⟩:=h.form;exact ⟨a,c,h1,.inr h⟩
noncomputable def chkB (l m:List RawI):Int :=
 if chkL none l≠0 then chkL none l else if chkL none m≠0 then chkL none m else
  if ∃ D T:List (Iv K),l=D.map RawI.of∧m=T.map RawI.of∧yax 3 T D=[] then 0 else 2
theorem chkB_l {l m:List RawI} (h:chkL none l≠0):chkB l m=chkL none l:=by unfold chkB;rw [if_pos h]
theorem chkB_m {l m:List RawI} (h:chkL none l=0) (h2:chkL none m≠0):chkB l m=chkL none m:=by unfold chkB;rw [if_neg (fun hn=>hn h),if_pos h2]
theorem chkB_v {l m:List RawI} {D T:List (Iv K)} (h:chkL none l=0) (h2:chkL none m=0) (hl:l=D.map RawI.of) (hm:m=T.map RawI.of):chkB l m=if yax 3 T D=[] then 0 else 2:=by
 unfold chkB;rw [if_neg (fun hn=>hn h),if_neg (fun hn=>hn h2)];by_cases hc:yax 3 T D=[]
 ·rw [if_pos ⟨D,T,hl,hm,hc⟩,if_pos hc]
 rw [if_neg,if_neg hc];rintro ⟨D',T',a,b,c⟩;rw [hl] at a;rw [hm] at b;rw [map_of_inj a,map_of_inj b] at hc;exact hc c
theorem infoSlI:(prog.info? 27).map (fun i=>(i.size,i.bytes,i.zero.map (·.cells)))=some (1,24,some #[.slice none 0 0]):=by kernel_rfl
theorem fill_s3 (a b:Option Addr) (m k n l:Nat):Instr.fill (fun i=>some (i*1,1)) ((Array.range (2*1)).map ((#[.slice none 0 0]:Array Value)[· % 1]!)) #[(0,Value.slice a m k),(1,Value.slice b n l)].toList=some #[.slice a m k,.slice b n l]:=by kernel_rfl
theorem yiW (a b:Option Addr) (m k n l:Nat) (w:World):(Instr.buildSlice 102 2 #[(0,.slice a m k),(1,.slice b n l)]).run prog w = .ok (.slice (some ⟨w.heap.size,0,none⟩) 2 2) (w.alloc (.cells #[.slice a m k,.slice b n l] 27)):=by
 have h:=infoSlI;cases hi:prog.info? 27 with
 | none=>rw [hi] at h;cases h
 | some i =>
  rw [hi] at h;simp only [Option.map_some,Option.some.injEq,Prod.mk.injEq] at h;obtain⟨h1,h2,h3⟩:=h;cases hz:i.zero with
  | none=>rw [hz] at h3;cases h3
  | some z =>
   rw [hz] at h3;simp only [Option.map_some,Option.some.injEq] at h3;refine run_buildSlice (P:=prog) w 102 27 2 _ _ i z underlying102 hi hz (by rw [h1];decide) (by rw [h1];decide) ?_;rw [h1,h3];exact fill_s3 _ _ _ _ _ _
theorem cov_of {l m:List RawI} {w:World} {dv tv:Value} (hr:RIR w dv l) (hq:RIR w tv m) (h6:l.length≤2000) (h7:m.length≤2000) (h1:chkL none l=0) (h2:chkL none m=0) :
  Calls prog 93 #[dv,tv] w fun e w'=>e = .returned (.bool (decide (chkB l m=0)))∧Keep [] w w':=by
 obtain⟨D,hD,nD⟩:=yge h1;obtain⟨T,hT,nT⟩:=yge h2;rw [chkB_v h1 h2 hD hT];subst hD hT;rw [List.length_map] at h6 h7;refine (covers_c D T nD.val nT.val w dv tv (yeI hr) (yeI hq) (by omega) (by omega)).mono fun e w' ⟨he,hk⟩=>⟨?_,hk⟩;rw [he];by_cases hc:yax 3 T D=[]
 ·rw [decide_eq_true hc,if_pos hc];rfl
 rw [decide_eq_false hc,if_neg hc];rfl
theorem chkB_02 {l m:List RawI} (h1:chkL none l=0) (h2:chkL none m=0):chkB l m=0∨chkB l m=2:=by
 obtain⟨D,hD,_⟩:=yge h1;obtain⟨T,hT,_⟩:=yge h2;rw [chkB_v h1 h2 hD hT];by_cases hc:yax 3 T D=[]
 ·rw [if_pos hc];exact .inl rfl
 rw [if_neg hc];exact .inr rfl
theorem mcheckB_p (l m:List RawI) (hs:∀ r∈l,r.sz 100000) (ht:∀ r∈m,r.sz 100000) (h6:l.length≤2000) (h7:m.length≤2000) (w:World) (dv tv:Value) (hr:RIR w dv l) (hq:RIR w tv m) :
  Calls prog 55 #[.agg #[dv,tv]] w fun e w'=>e = .returned (.int .i64 (chkB l m))∧Below w.heap.size w w':=by
 have H1:=jX (fun u (hk:Below w.heap.size w u)=>yiv l hs u dv (RIR.riq hr |>.laterB hk) (by omega));have H2:=jX (fun u (hk:Below w.heap.size w u)=>yiv m ht u tv (RIR.riq hq |>.laterB hk) (by omega));have H3:=jX (fun u (hk:Below w.heap.size w u) h1 h2=>cov_of (hr.laterB hk) (hq.laterB hk) h6 h7 h1 h2);have Hl:=jX (@chkB_l l m);have Hm:=jX (@chkB_m l m);have Hz:=jX (@chkB_02 l m);obtain⟨da,dc,rfl,_⟩:=hr.form;obtain⟨ta,tc,rfl,_⟩:=hq.form;clear hr hq hs ht;generalize chkL none l=x at *;generalize chkL none m=y at *;generalize chkB l m=z at *;go_enter func55,ntmps55
 go_upto_region 1 with (fail)
 obtain⟨W,ga,hW,ega,Bga,hga,hgW,HkW⟩:=al1h w (.cells #[.slice da l.length dc,.slice ta m.length tc] 29);rw [← hW];try rw [ega]
 clear hW ega;have pga:=yaa Bga.out;refine wp_region_lit ?_;refine' yad (v:=_) (by rfl) (?ha) (fun K hK=>?ka)
 case ha=>(go_simp;try rfl)
 go_simp;refine hK _ _ ?_;clear hK K;refine' yad (v:=_) (by rfl) (?hb) (fun K hK=>?kb)
 case hb=>(go_simp;try rfl)
 go_simp;refine hK _ _ ?_;clear hK K;refine' yad (v:=_) (by rfl) (?hc) (fun K hK=>?kc)
 case hc=>(go_simp;try rfl)
 go_simp;refine hK _ _ ?_;clear hK K;refine' yad (v:=_) (by rfl) (?hd) (fun K hK=>?kd)
 case hd=>(go_simp;try rfl)
 go_simp;refine hK _ _ ?_;clear hK K;clear pga;obtain⟨w1,gs,e1,e2,bgs,hgs,_,hk1⟩:=al1 W (.cells #[.slice da l.length dc,.slice ta m.length tc] 27);refine yaq (v:=.slice (some ⟨W.heap.size,0,none⟩) 2 2) (w':=W.alloc (.cells #[.slice da l.length dc,.slice ta m.length tc] 27)) (by rfl) (yaE 102 2 #[(0,.tmp 7),(1,.tmp 9)] #[(0,.slice da l.length dc),(1,.slice ta m.length tc)] _ rfl (by simp only [List.map_toArray,List.map_cons,List.map_nil];rfl) (yiW _ _ _ _ _ _ _)) (fun K hK=>?_);rw [← e1,e2];clear e1 e2;go_simp;refine hK _ _ ?_;clear hK K;have HB1:=jX (HkW.out.tz hk1).bz;have hga:=hk1.heap Bga.out (by simp);clear hk1 hgs;go_wp2_with fail;go_loopw [12] (fun c wr=>∃ k:Nat,k≤2∧c = .int .i64 (k:Int)∧(1≤k→x=0)∧(2≤k→y=0)∧Below w.heap.size w wr∧wr.heap[gs]? = some (.cells #[.slice da l.length dc,.slice ta m.length tc] 27)∧wr.heap[ga]? = some (.cells #[.slice da l.length dc,.slice ta m.length tc] 29)) (fun c _=>2-(intOf c).toNat)
 case atStart=>exact ⟨0,by omega,rfl,by omega,by omega,HB1.out,bgs,hga⟩
 case round =>
  obtain⟨k,hk,rfl,h1,h2,hb,hs,hg⟩:=hrel;have HB:=jX hb;have Bgs:=jX hs;have Bga:=jX hg;clear hb hs hg bgs hga;obtain rfl|rfl|rfl:k=0∨k=1∨k=2:=by omega
  ·clear h1 h2
   have pgs:=yaa Bgs.out;go_wp2_with fail;refine (H1.out _ HB.out).mono ?_;rintro e w2 ⟨rfl,hb2⟩;dsimp only;have HB2:=jX (HB.out.trans (Below.mono hb2 HB.out.size));have B2gs:=jX ((hb2.block gs (yab Bgs.out)).trans Bgs.out);clear Bgs;have Bgs:=B2gs;clear B2gs;have B2ga:=jX ((hb2.block ga (yab Bga.out)).trans Bga.out);clear Bga;have Bga:=B2ga;clear B2ga;clear hb2 pgs;by_cases hx:x=0
   ·subst hx
    go_wp2_with fail;go_roundw
    case rel=>exact ⟨1,by omega,rfl,fun _=>by trivial,by omega,HB2.out,Bgs.out,Bga.out⟩
    case measure=>simp [intOf]
   have hne:(x != 0)=true:=by rw [bne_iff_ne];exact hx
   have HE:=jX (Hl.out hx);clear hx;go_wp2_with fail;go_ret
   exact ⟨by rw [HE.out];rfl,HB2.out⟩
  ·have hx:x=0:=h1 (by omega)
   subst hx;clear h1 h2;have pgs:=yaa Bgs.out;go_wp2_with fail;refine (H2.out _ HB.out).mono ?_;rintro e w2 ⟨rfl,hb2⟩;dsimp only;have HB2:=jX (HB.out.trans (Below.mono hb2 HB.out.size));have B2gs:=jX ((hb2.block gs (yab Bgs.out)).trans Bgs.out);clear Bgs;have Bgs:=B2gs;clear B2gs;have B2ga:=jX ((hb2.block ga (yab Bga.out)).trans Bga.out);clear Bga;have Bga:=B2ga;clear B2ga;clear hb2 pgs;by_cases hy:y=0
   ·subst hy
    go_wp2_with fail;go_roundw
    case rel=>exact ⟨2,by omega,rfl,fun _=>by trivial,fun _=>by trivial,HB2.out,Bgs.out,Bga.out⟩
    case measure=>simp [intOf]
   have hne:(y != 0)=true:=by rw [bne_iff_ne];exact hy
   have HE:=jX (Hm.out (by trivial) hy);clear hy;go_wp2_with fail;go_ret
   exact ⟨by rw [HE.out];rfl,HB2.out⟩
  have hx:x=0:=h1 (by omega);have hy:y=0:=h2 (by omega);subst hx hy;clear h1 h2;have pga:=yaa Bga.out;go_wp2_with fail;refine (H3.out _ HB.out (by trivial) (by trivial)).mono ?_;rintro e w2 ⟨rfl,hk2⟩;dsimp only;have HB2:=jX (HB.out.trans (Below.mono hk2.bz HB.out.size));clear hk2 pga;rcases Hz.out (by trivial) (by trivial) with rfl|rfl
  ·go_wp2_with fail
   go_ret
   exact ⟨rfl,HB2.out⟩
  go_wp2_with fail;go_ret
  exact ⟨rfl,HB2.out⟩
end
section
open Classical
noncomputable def fstE:List RawI→Int
 | []=>0
 | r :: l=>if eI r≠0 then eI r else fstE l
theorem yij {l:List RawI}:∀ {k:Nat} (hk:k<l.length),fstE l=fstE (l.drop k)→eI l[k]≠0→fstE l=eI l[k]:=by
 intro k hk h he;rw [h,List.drop_eq_getElem_cons hk,fstE,if_pos he]
theorem yhd {l:List RawI}:∀ {k:Nat} (hk:k<l.length),fstE l=fstE (l.drop k)→eI l[k]=0→fstE l=fstE (l.drop (k+1)):=by
 intro k hk h he;rw [h,List.drop_eq_getElem_cons hk,fstE,if_neg (fun hn=>hn he)]
theorem yim {l:List RawI} (h:fstE l=fstE (l.drop l.length)):fstE l=0:=by
 rw [h,List.drop_length];rfl
theorem yiL (l m:List RawI):fstE (l++m)=if fstE l=0 then fstE m else fstE l:=by
 induction l with
 | nil=>rfl
 | cons r l ih =>
  have h1:fstE ((r :: l)++m)=if eI r≠0 then eI r else fstE (l++m):=rfl
  have h2:fstE (r :: l)=if eI r≠0 then eI r else fstE l:=rfl
  rw [h1,h2];by_cases he:eI r=0
  ·have hn:¬ (eI r≠0):=fun hn=>hn he
   rw [if_neg hn,if_neg hn];exact ih
  have hp:eI r≠0:=he;rw [if_pos hp,if_pos hp,if_neg he]
theorem fstE_of {l:List RawI} (h:fstE l=0):∃ D:List (Iv K),l=D.map RawI.of∧∀ i∈D,i.f<i.l:=by
 induction l with
 | nil=>exact ⟨[],rfl,by simp⟩
 | cons r l ih =>
  rw [fstE] at h;by_cases he:eI r=0
  ·rw [if_neg (fun hn=>hn he)] at h
   obtain⟨D,rfl,hD⟩:=ih h;obtain⟨i,rfl,hi⟩:=yfQ he;exact ⟨i :: D,rfl,by simpa using ⟨hi,hD⟩⟩
  rw [if_pos he] at h;exact absurd h he
theorem yis (l:List RawI) (hs:∀ r∈l,r.sz 100000) (w:World) (sv:Value) (hr:RIQ w sv l) (h9:l.length≤1000000) :
  Calls prog 59 #[sv] w fun e w'=>e = .returned (.int .i64 (fstE l))∧Keep [] w w':=by
 have HR:=jX hr;have HCI:=jX (fun r (h:r∈l)=>fault_c r (hs r h));obtain⟨ao,ac,rfl,_⟩:=hr;clear hs;go_enter func59,ntmps59
 go_wp2_with fail;go_loopw [3] (fun c wr=>∃ k:Nat,k≤l.length∧c = .int .i64 (k:Int)∧fstE l=fstE (l.drop k)∧Keep [] w wr) (fun c _=>l.length-(intOf c).toNat)
 case atStart=>exact ⟨0,Nat.zero_le _,rfl,rfl,Keep.refl _ _⟩
 case round =>
  obtain⟨k,hk,rfl,hca,hb⟩:=hrel;have HA:=jX hca;have HB:=jX hb;clear hca hb;by_cases hlt:k<l.length
  ·obtain⟨g,o,rfl,hg,hat⟩:=RIQ.elem (HR.out.later HB.out) k hlt
   have HI:=jX (HCI.out l[k] (List.getElem_mem hlt));have HErr:=jX (yij hlt HA.out);have HNx:=jX (yhd hlt HA.out);generalize l[k]=r at *;obtain⟨q,hq⟩:∃ q,o+k*20=q:=⟨_,rfl⟩;rw [hq] at hat;have HL:=jX (ybF wr g q r hat);have hrv:r.v = .agg r.C:=rfl;rw [hrv] at HI HL;generalize r.C=C at *;generalize eI r=e0 at *;clear hat hrv;have hkc:(k:Int)<(l.length:Int):=by omega
   go_upto_region 4 with (fail)
   refine wp_region_lit ?_;refine' yad (v:=_) (by rfl) (?ha) (fun K hK=>?ka)
   case ha=>(go_simp;try rfl)
   go_simp;refine hK _ _ ?_;clear hK K;refine' yad (v:=_) (by rfl) (?hb) (fun K hK=>?kb)
   case hb=>(go_simp;try rfl)
   go_simp;refine hK _ _ ?_;clear hK K;refine' yad (v:=_) (by rfl) (?hc) (fun K hK=>?kc)
   case hc=>(go_simp;try rfl)
   go_simp;refine hK _ _ ?_;clear hK K;refine yad (v:=.agg C) (by rfl) (yak _ _ ⟨g,q,none⟩ _ rfl rfl HL.out) (fun K hK=>?_);go_simp;refine hK _ _ ?_;clear hK K;refine wpList_plain (by rfl) (fun K hK=>?_);refine yae 98 #[.agg C] (by go_simp) ?_;refine (HI.out _).mono ?_;rintro e w3 ⟨rfl,hk3⟩;refine ⟨_,rfl,?_⟩;go_simp;refine hK _ _ ?_;clear hK K;have HB3:=jX (HB.out.tz hk3);clear hk3 HI HL;refine' yad (v:=_) (by rfl) (?hd) (fun K hK=>?kd)
   case hd=>(go_simp;try rfl)
   go_simp;refine hK _ _ ?_;clear hK K;by_cases he:e0=0
   ·subst he
    have HN:=jX (HNx.out rfl);clear HNx HErr;go_wp2_with fail;go_roundw
    case rel=>exact ⟨k+1,by omega,congrArg (Value.int .i64) (by omega),HN.out,HB3.out⟩
    case measure=>simp [intOf];omega
   have hE:=jX (HErr.out he);clear HNx HErr HA;go_wp2_with fail;go_ret
   exact ⟨by rw [hE.out];rfl,HB3.out⟩
  obtain rfl:k=l.length:=by omega
  have hE:=jX (yim HA.out);clear HA;go_wp2_with fail;go_ret
  exact ⟨by rw [hE.out];rfl,HB.out⟩
end
section
open Classical
structure MP (S:List K) (w0 w:World) (L:List (Value × List (Iv K))):Prop where
 mi:MI w0 w L
 per:∀ p∈L,Per S p.2
 few:S.length≤1000
section
variable {S:List K} {w0 w w':World} {L:List (Value × List (Iv K))}
theorem MP.start (h:S.length≤1000) (w:World):MP S w w []:=⟨MI.start w,by simp,h⟩
theorem MP.move (h:MP S w0 w L) (hk:Keep [] w w'):MP S w0 w' L:=⟨h.mi.move hk,h.per,h.few⟩
theorem MP.add (h:MP S w0 w L) {v:Value} {l:List (Iv K)} (hk:Keep [] w w') (hv:IvR w' v l) (hp:Per S l):MP S w0 w' ((v,l) :: L) :=
 ⟨h.mi.add hk hv,fun p hp'=>by
  rcases List.mem_cons.1 hp' with rfl|hp'
  ·exact hp
  exact h.per p hp',h.few⟩
theorem MP.keep (h:MP S w0 w L):Keep [] w0 w:=h.mi.1
theorem MP.get (h:MP S w0 w L) {v:Value} {l:List (Iv K)} (hm:(v,l)∈L):IvR w v l:=h.mi.2 _ hm
theorem MP.val (h:MP S w0 w L) {v:Value} {l:List (Iv K)} (hm:(v,l)∈L):∀ i∈l,i.f<i.l:=(h.per _ hm).norm.val
theorem MP.len (h:MP S w0 w L) {v:Value} {l:List (Iv K)} (hm:(v,l)∈L):l.length≤2000:=by have:=(h.per _ hm).len;have:=h.few;dsimp only at *;omega
def PerPost (S:List K) (w0:World) (L:List (Value × List (Iv K))) (m:List (Iv K)) (e:Ending) (w':World):Prop:=∃ a c,e = .returned (.slice a m.length c)∧MP S w0 w' ((.slice a m.length c,m) :: L)
theorem ycl (h:MP S w0 w L) {m:List (Iv K)} (hp:Per S m) {f:Nat} {args:Array Value} (hc:Calls prog f args w fun e w'=>∃ v,e = .returned v∧IvR w' v m∧Keep [] w w'):Calls prog f args w (PerPost S w0 L m) :=
 hc.mono fun e w' ⟨v,he,hv,hk⟩=>by
  obtain⟨a,c,rfl,_⟩:=hv.form;exact ⟨a,c,he,h.add hk hv hp⟩
variable {v u:Value} {a b:List (Iv K)}
theorem MP.combP (h:MP S w0 w L) (op:Int) (hv:(v,a)∈L) (hu:(u,b)∈L):Per S (yax op a b):=ycT op (h.per _ hv).pts (h.per _ hu).pts
theorem MP.inter (h:MP S w0 w L) (hv:(v,a)∈L) (hu:(u,b)∈L):Calls prog 71 #[v,u] w (PerPost S w0 L (yax 2 a b)) :=
 ycl h (h.combP 2 hv hu) (Intersect_p a b (h.val hv) (h.val hu) w v u (h.get hv) (h.get hu) (by have:=h.len hv;omega) (by have:=h.len hu;omega))
def BoolPost (S:List K) (w0:World) (L:List (Value × List (Iv K))) (r:Bool) (e:Ending) (w':World):Prop:=e = .returned (.bool r)∧MP S w0 w' L
theorem ydh (h:MP S w0 w L) {r:Bool} {f:Nat} {args:Array Value} (hc:Calls prog f args w fun e w'=>e = .returned (.bool r)∧Keep [] w w'):Calls prog f args w (BoolPost S w0 L r) :=
 hc.mono fun e w' ⟨he,hk⟩=>⟨he,h.move hk⟩
theorem MP.eq (h:MP S w0 w L) (hv:(v,a)∈L) (hu:(u,b)∈L) (he:a=b):Calls prog 21 #[v,u] w (BoolPost S w0 L true) :=
 ydh h (equal_t he w v u (h.get hv) (h.get hu) (by have:=h.len hv;omega))
end
theorem comb_ext {op op':Int} {a b a' b':List (Iv K)} (h:∀ x,decV op (hasL a x) (hasL b x)=decV op' (hasL a' x) (hasL b' x)):yax op a b=yax op' a' b' :=
 ygj (ybw _ _ _) (fun x=>by rw [ycL,h])
theorem dec2 (a b:Bool):decV 2 a b=(a&&b):=rfl
theorem perOf_in {l:List SpanA} {S:List K} (h:∀ x∈ptsL (ivsOf l),x∈S):Per S (yhE l):=⟨yja l,(perOf_per l).pts.mono h⟩
theorem MP.period {S:List K} {w0 w:World} {L:List (Value × List (Iv K))} (h:MP S w0 w L) {l:List SpanA} {sv:Value} (hr:SpQ w0 sv l) (h9:l.length≤9223372036854775807) (hS:∀ x∈ptsL (ivsOf l),x∈S) :
  Calls prog 45 #[sv] w (PerPost S w0 L (yhE l)):=ycl h (perOf_in hS) (lperiod_c l w sv (hr.later h.keep) h9)
end
def SubL (T D:List (Iv K)):Prop:=∀ x,hasL T x=true→hasL D x=true
section
variable {D T E U G V P:List (Iv K)}
end
theorem IvR.laterBox {u u':World} {v:Value} {l:List (Iv K)} {g:Nat} {cs:Array Value} {t:TypeId} (h:IvR u v l) (hb:u.heap[g]? = some (.cells cs t)) (hs:cs.size<20) (hk:Keep [g] u u'):IvR u' v l:=by
 rcases h with h|⟨g',o,c,rfl,hc,hg,hx⟩
 ·exact .inl h
 refine .inr ⟨g',o,c,rfl,hc,Nat.lt_of_lt_of_le hg hk.size,fun i v hv=>?_⟩;by_cases hgg:g'=g
 ·subst hgg
  exfalso;cases l with
  | nil=>simp at hv
  | cons x r =>
   have:=hx 19 (.bool (!x.l.beh)) (by rw [List.flatMap_cons,List.getElem?_append_left (by rw [ycY];decide)];rfl);rw [yaa hb] at this;have:=(Array.getElem?_eq_some_iff.1 this).1;omega
 rw [World.cell?_of_block (hk.block g' hg (by simp;exact hgg))];exact hx i v hv
section
open Classical
theorem OI_.rowI {w0 w:World} {v:Value} {l:List (Iv K)} (h:OI_ w0 w v l):IvR w v l:=h.read
theorem clone_c (l:List (Iv K)) (w:World) (sv:Value) (hr:IvR w sv l) (h9:l.length≤100000) :
  Calls prog 73 #[sv] w fun e w'=>∃ v,e = .returned v∧OI_ w w' v l:=by
 have HR:=jX hr;have q22:∀ (w:World) (a:Option Addr) (n c n' c':Nat),(binOp .eql 27 (.slice a n c) (.slice none n' c')).run prog w = .ok (.bool a.isNone) w:=fun w a n c n' c'=>Lib.run_eql_slice_nil w _ _ a n c n' c' underlying27;rcases hr with ⟨rfl,rfl⟩|⟨g,o,c,rfl,hc,hg,_⟩
 ·clear HR
  go_enter func73,ntmps73
  go_wp2_with fail;go_ret
  exact ⟨_,rfl,OE.nil w⟩
 clear hg hc;go_enter func73,ntmps73
 go_upto_region 3 with (fail)
 refine wp_region_lit ?_;obtain⟨ub,gx,e3,e4,hz1,hx⟩:=OI_.start w;refine yaq (v:=.slice (some ⟨w.heap.size,0,none⟩) 0 0) (by rfl) (yaE 27 0 #[] #[] _ rfl (by simp) (yiq w)) (fun K hK=>?_);rw [e3,e4];clear e3;go_simp;refine hK _ _ ?_;clear hK K;refine' yad (v:=_) (by rfl) (?ha) (fun K hK=>?ka)
 case ha=>(go_simp;try rfl)
 go_simp;refine hK _ _ ?_;clear hK K;obtain⟨v4,u4,hr4,ho4,hn4,_⟩:=IvR.app (ty:=27) hx (.inl (by simp [Value.ownBlock])) (HR.out.later hx.keep) (by simp;omega);refine yaq (by rfl) (yas (.tmp 5) (.tmp 6) 27 _ _ _ rfl rfl rfl hr4) (fun K hK=>?_);go_simp;refine hK _ _ ?_;clear hK K hr4;have HN:=jX ho4;clear ho4 hn4 hx;go_wp2_with fail;go_ret
 exact ⟨_,rfl,HN.out⟩
end
section
open Classical
section
variable {S:List K} {w0 w w' W:World} {L M:List (Value × List (Iv K))}
theorem MP.here (h:MP S w0 w L):MP S w w L:=⟨⟨Keep.refl _ _,h.mi.2⟩,h.per,h.few⟩
theorem MP.fin (hk0:Keep [] w0 w) (hkW:Keep [] w W) (h:MP S W w' L) {g:Nat} {cs:Array Value} {t:TypeId} {u:World} (hb:w'.heap[g]? = some (.cells cs t)) (hs:cs.size<20) (hg:w.heap.size≤g) (hk:Keep [g] w' u) (hm:∀ p∈M,p∈L):MP S w0 u M :=
 ⟨⟨hk0.tz ((hkW.tz h.mi.1).trans hk (by simp;exact hg)),fun p hp=>(h.mi.2 p (hm p hp)).laterBox hb hs hk⟩,fun p hp=>h.per p (hm p hp),h.few⟩
variable {v u:Value} {a b:List (Iv K)}
theorem MP.cont (h:MP S w0 w L) (hv:(v,a)∈L) (t:K):Calls prog 65 #[v,kv t] w (BoolPost S w0 L (holds a t)) :=
 ydh h (yjy a t w v (h.get hv) (by have:=h.len hv;omega))
theorem MP.eqd (h:MP S w0 w L) (hv:(v,a)∈L) (hu:(u,b)∈L):Calls prog 21 #[v,u] w (BoolPost S w0 L (decide (a=b))) :=
 ydh h (equal_c a b w v u (h.get hv) (h.get hu) (by have:=h.len hv;omega) (by have:=h.len hu;omega))
theorem MP.clone (h:MP S w0 w L) (hv:(v,a)∈L):Calls prog 73 #[v] w (PerPost S w0 L a) :=
 ycl h (h.per _ hv) ((clone_c a w v (h.get hv) (by have:=h.len hv;omega)).mono fun e w' ⟨v,he,ho⟩=>⟨v,he,ho.rowI,ho.keep⟩)
end
def BolPost (S:List K) (w0:World) (L:List (Value × List (Iv K))) (D T:List (Iv K)) (e:Ending) (w':World):Prop :=
 ∃ a c b d,e = .returned (.agg #[.slice a D.length c,.slice b T.length d])∧MP S w0 w' ((.slice a D.length c,D) :: (.slice b T.length d,T) :: L)
section
variable {S:List K} {w0 w:World} {L:List (Value × List (Iv K))} {D T E U P:List (Iv K)} {da ta ea ua pa:Option Addr} {dc tc ec uc pc:Nat}
theorem MP.mlift (h:MP S w0 w L) (hD:(.slice da D.length dc,D)∈L) (hT:(.slice ta T.length tc,T)∈L) (hE:(.slice ea E.length ec,E)∈L) (hU:(.slice ua U.length uc,U)∈L) (hP:(.slice pa P.length pc,P)∈L) :
  Calls prog 72 #[.agg #[.slice da D.length dc,.slice ta T.length tc],.agg #[.slice ea E.length ec,.slice ua U.length uc],.slice pa P.length pc] w (BolPost S w0 L (yax 2 D E) (yax 2 (yax 2 D E) P)):=by
 have hP:=jX hP;have H0:=jX h;have hD:=jX hD;have hT:=jX hT;have hE:=jX hE;have hU:=jX hU;clear h;go_enter func72,ntmps72
 go_upto_region 1 with (fail)
 obtain⟨W,ga,gb,gc,hW,ega,egb,egc,Bga,Bgb,Bgc,hga,hgb,hgc,hgW,HkW⟩:=al3h w (.cells #[.slice da D.length dc,.slice ta T.length tc] 29) (.cells #[.slice ea E.length ec,.slice ua U.length uc] 29) (.cells #[.slice none 0 0,.slice none 0 0] 29);rw [← hW];try rw [egc]
 try rw [egb]
 try rw [ega]
 clear hW ega egb egc;have HM:=jX (H0.out.here.move HkW.out).here;have pga:=yaa Bga.out;have pgb:=yaa Bgb.out;go_wp2_with fail;refine (HM.out.inter (v:=.slice da D.length dc) (a:=D) (u:=.slice ea E.length ec) (b:=E) (by simp [hD.out,hT.out,hE.out,hU.out]) (by simp [hD.out,hT.out,hE.out,hU.out])).mono ?_;rintro e w1 ⟨vo_w1,vc_w1,rfl,hm_w1⟩;dsimp only;have HM:=jX hm_w1;clear hm_w1;clear pga pgb;go_wp2_with fail;refine (HM.out.inter (v:=.slice vo_w1 (yax 2 D E).length vc_w1) (a:=yax 2 D E) (u:=.slice pa P.length pc) (b:=P) (by simp) (by simp [hP.out])).mono ?_;rintro e w2 ⟨vo_w2,vc_w2,rfl,hm_w2⟩;dsimp only;have HM:=jX hm_w2;clear hm_w2;have bz:=jX (HM.out.keep.heap Bgc.out (by simp));have pgc:=yaa bz.out;have fgc:=yaf bz.out;have lgc:=yab bz.out;go_wp2_with fail;obtain⟨u9,e9,b9,k9⟩:=st2 (x:=.slice vo_w1 (yax 2 D E).length vc_w1) (y:=.slice vo_w2 (yax 2 (yax 2 D E) P).length vc_w2) bz.out;rw [← e9];clear e9 pgc fgc lgc;have pgc:=yaa b9;refine bodyPost_ret (v:=.agg #[.slice vo_w1 (yax 2 D E).length vc_w1,.slice vo_w2 (yax 2 (yax 2 D E) P).length vc_w2]) ?_ rfl ⟨_,_,_,_,rfl,MP.fin H0.out.keep HkW.out HM.out bz.out (by simp) (by omega) k9 ?_⟩
 ·rw [yah rfl];go_simp
 intro p hp;simp only [List.mem_cons] at hp ⊢;grind
end
end
section
open Classical
section
variable {S:List K} {w0 w:World} {L:List (Value × List (Iv K))} {D T E U P:List (Iv K)} {da ta ea ua pa:Option Addr} {dc tc ec uc pc:Nat}
theorem MP.mand (h:MP S w0 w L) (hD:(.slice da D.length dc,D)∈L) (hT:(.slice ta T.length tc,T)∈L) (hE:(.slice ea E.length ec,E)∈L) (hU:(.slice ua U.length uc,U)∈L) :
  Calls prog 29 #[.agg #[.slice da D.length dc,.slice ta T.length tc],.agg #[.slice ea E.length ec,.slice ua U.length uc]] w (BolPost S w0 L (yax 2 D E) (yax 2 (yax 2 D E) (yax 2 T U))):=by
 have H0:=jX h;have hD:=jX hD;have hT:=jX hT;have hE:=jX hE;have hU:=jX hU;clear h;go_enter func29,ntmps29
 go_upto_region 1 with (fail)
 obtain⟨W,ga,gb,gc,hW,ega,egb,egc,Bga,Bgb,Bgc,hga,hgb,hgc,hgW,HkW⟩:=al3h w (.cells #[.slice da D.length dc,.slice ta T.length tc] 29) (.cells #[.slice ea E.length ec,.slice ua U.length uc] 29) (.cells #[.slice none 0 0,.slice none 0 0] 29);rw [← hW];try rw [egc]
 try rw [egb]
 try rw [ega]
 clear hW ega egb egc;have HM:=jX (H0.out.here.move HkW.out).here;refine yaj (S:=fun u=>Keep [] W u) 8 (by kernel_rfl) (by kernel_rfl) (fun _ _ d _ _ h=>by cases d<;>exact h) ?_;have HM:=jX (HM.out.move (Keep.drew [] W));generalize World.drew W=u at *;have hS0:=HM.out.keep;refine' jV (v:=_) 0 hS0 (fun w hw=>?hf0) (fun K hK=>?kf0)
 case hf0=>(have pga:=yaa (hw.heap Bga.out (by simp));have pgb:=yaa (hw.heap Bgb.out (by simp));go_simp;try rfl)
 go_simp;refine hK _ ?_;clear hK K;refine' jV (v:=_) 1 hS0 (fun w hw=>?hf1) (fun K hK=>?kf1)
 case hf1=>(have pga:=yaa (hw.heap Bga.out (by simp));have pgb:=yaa (hw.heap Bgb.out (by simp));go_simp;try rfl)
 go_simp;refine hK _ ?_;clear hK K;refine' jV (v:=_) 2 hS0 (fun w hw=>?hf2) (fun K hK=>?kf2)
 case hf2=>(have pga:=yaa (hw.heap Bga.out (by simp));have pgb:=yaa (hw.heap Bgb.out (by simp));go_simp;try rfl)
 go_simp;refine hK _ ?_;clear hK K;refine' jV (v:=_) 3 hS0 (fun w hw=>?hf3) (fun K hK=>?kf3)
 case hf3=>(have pga:=yaa (hw.heap Bga.out (by simp));have pgb:=yaa (hw.heap Bgb.out (by simp));go_simp;try rfl)
 go_simp;refine hK _ ?_;clear hK K;refine' jV (v:=_) 4 hS0 (fun w hw=>?hf4) (fun K hK=>?kf4)
 case hf4=>(have pga:=yaa (hw.heap Bga.out (by simp));have pgb:=yaa (hw.heap Bgb.out (by simp));go_simp;try rfl)
 go_simp;refine hK _ ?_;clear hK K;refine' jV (v:=_) 5 hS0 (fun w hw=>?hf5) (fun K hK=>?kf5)
 case hf5=>(have pga:=yaa (hw.heap Bga.out (by simp));have pgb:=yaa (hw.heap Bgb.out (by simp));go_simp;try rfl)
 go_simp;refine hK _ ?_;clear hK K;refine jO 6 (fun K hK=>?_);refine yae 71 #[.slice ta T.length tc,.slice ua U.length uc] (by go_simp) ?_;refine (HM.out.inter (v:=.slice ta T.length tc) (a:=T) (u:=.slice ua U.length uc) (b:=U) (by simp [hD.out,hT.out,hE.out,hU.out]) (by simp [hD.out,hT.out,hE.out,hU.out])).mono ?_;rintro e w1 ⟨vo_w1,vc_w1,rfl,hm_w1⟩;have HM:=jX hm_w1;clear hm_w1;refine ⟨_,rfl,?_⟩;have hS0:=HM.out.keep;go_simp;refine hK _ _ hS0 ?_;clear hK K;refine jO 7 (fun K hK=>?_);refine yae 72 #[.agg #[.slice da D.length dc,.slice ta T.length tc],.agg #[.slice ea E.length ec,.slice ua U.length uc],.slice vo_w1 (yax 2 T U).length vc_w1] (by go_simp) ?_;refine (HM.out.mlift (D:=D) (T:=T) (E:=E) (U:=U) (P:=yax 2 T U) (by simp [hD.out,hT.out,hE.out,hU.out]) (by simp [hD.out,hT.out,hE.out,hU.out]) (by simp [hD.out,hT.out,hE.out,hU.out]) (by simp [hD.out,hT.out,hE.out,hU.out]) (by simp [hD.out,hT.out,hE.out,hU.out])).mono ?_;rintro e w2 ⟨da_w2,dc_w2,ta_w2,tc_w2,rfl,hm_w2⟩;have HM:=jX hm_w2;clear hm_w2;refine ⟨_,rfl,?_⟩;have hS0:=HM.out.keep;go_simp;refine hK _ _ hS0 ?_;clear hK K;refine ⟨by kernel_rfl,?_⟩;simp only [List.drop_succ_cons,List.drop_zero];have bz:=jX (HM.out.keep.heap Bgc.out (by simp));have pgc:=yaa bz.out;have fgc:=yaf bz.out;have lgc:=yab bz.out;go_wp2_with fail;obtain⟨u9,e9,b9,k9⟩:=st2 (x:=.slice da_w2 (yax 2 D E).length dc_w2) (y:=.slice ta_w2 (yax 2 (yax 2 D E) (yax 2 T U)).length tc_w2) bz.out;rw [← e9];clear e9 pgc fgc lgc;have pgc:=yaa b9;refine bodyPost_ret (v:=.agg #[.slice da_w2 (yax 2 D E).length dc_w2,.slice ta_w2 (yax 2 (yax 2 D E) (yax 2 T U)).length tc_w2]) ?_ rfl ⟨_,_,_,_,rfl,MP.fin H0.out.keep HkW.out HM.out bz.out (by simp) (by omega) k9 ?_⟩
 ·rw [yah rfl];go_simp
 intro p hp;simp only [List.mem_cons] at hp ⊢;grind
end
end
end Go.Proofs.YtejegogbhpmgfaaGreatDoor
