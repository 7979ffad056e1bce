/- Parts of a proof about this translation: Ic, Ie, Id. -/
import Derived.RegionTactic
import Derived.ChangeAlike
import Derived.BigRegion
import Derived.Test.YtejegogbhpmgfaaGreatDoorC36
import Derived.Test.YtejegogbhpmgfaaGreatDoorC35
import Derived.Test.YtejegogbhpmgfaaGreatDoorC34
set_option linter.unusedVariables false
set_option linter.unusedSimpArgs false
set_option maxRecDepth 100000
set_option maxHeartbeats 8000000
namespace Go.Proofs.YtejegogbhpmgfaaGreatDoor
open Go.RowKit
section
open Classical
theorem rcheck12_c (l:List RawI) (hs:∀ r∈l,r.sz 100000) (w:World) (sv:Value) (hr:RIQ w sv l) (h9:l.length≤1000000) :
  Calls Tryz.prog 94 #[sv] w fun e w'=>e = .returned (.int .i64 (chkL none l))∧Keep [] w w':=by
 have HR:=jX hr
 have HCI:=jX (fun r (h:r∈l)=>fault_c r (hs r h))
 obtain⟨ao,ac,rfl,_⟩:=hr
 clear hs
 go_enter Tryz.func94,Tryz.ntmps94
 go_wp2_with fail
 go_loopw [3] (fun c wr=>∃ (k:Nat) (p:Option (Iv K)),k≤l.length∧c = .int .i64 (k:Int)∧ChkAt l k p∧Keep [] w wr) (fun c _=>l.length-(intOf c).toNat)
 case atStart=>exact ⟨0,none,Nat.zero_le _,rfl,ChkAt.start l,Keep.refl _ _⟩
 case round =>
  obtain⟨k,pv,hk,rfl,hca,hb⟩:=hrel
  have HA:=jX hca
  have HB:=jX hb
  clear hca hb
  by_cases hlt:k<l.length
  ·obtain⟨g,o,rfl,hg,hat⟩:=RIQ.elem (HR.out.later HB.out) k hlt
   have HI:=jX (HCI.out l[k] (List.getElem_mem hlt))
   have HErr:=jX (HA.out.err hlt)
   obtain⟨r,hrk⟩:∃ r,l[k]=r:=⟨_,rfl⟩
   have Hrk:=jX hrk
   rw [hrk] at hat HI HErr
   clear hrk
   obtain⟨q,hq⟩:∃ q,o+k*20=q:=⟨_,rfl⟩
   rw [hq] at hat
   have HL:=jX (load_rawi wr g q r hat)
   have HAT:=jX hat
   have hrv:r.v = .agg r.C:=rfl
   rw [hrv] at HI HL
   obtain⟨C,hC⟩:∃ C,r.C=C:=⟨_,rfl⟩
   rw [hC] at HI HL
   have hkc:(k:Int)<(l.length:Int):=by omega
   have hk0':(0:Int)≤(k:Int):=by omega
   clear hat hrv hC
   go_upto_region 4 with (fail)
   refine wp_region_lit ?_
   refine' wpList_R (v:=_) (by rfl) (?ha) (fun K hK=>?ka)
   case ha=>(go_simp;try rfl)
   go_simp
   refine hK _ _ ?_
   clear hK K
   refine' wpList_R (v:=_) (by rfl) (?hb) (fun K hK=>?kb)
   case hb=>(go_simp;try rfl)
   go_simp
   refine hK _ _ ?_
   clear hK K
   refine' wpList_R (v:=_) (by rfl) (?hc) (fun K hK=>?kc)
   case hc=>(go_simp;try rfl)
   go_simp
   refine hK _ _ ?_
   clear hK K
   refine wpList_R (v:=.agg C) (by rfl) (exec_load _ _ ⟨g,q,none⟩ _ rfl rfl HL.out) (fun K hK=>?_)
   go_simp
   refine hK _ _ ?_
   clear hK K
   refine wpList_plain (by rfl) (fun K hK=>?_)
   refine wp_enter 98 #[.agg C] (by go_simp) ?_
   refine (HI.out _).mono ?_
   rintro e w3 ⟨rfl,hk3⟩
   refine ⟨_,rfl,?_⟩
   go_simp
   refine hK _ _ ?_
   clear hK K HL HI
   have HK3:=jX (HB.out.trans0 hk3)
   have HAT3:Hid (RIAt w3 g q r):=jX (HAT.out.keepB (hk3.block g hg (by simp)))
   have hg3:g<w3.heap.size:=Nat.lt_of_lt_of_le hg hk3.size
   clear hk3 HAT
   refine' wpList_R (v:=_) (by rfl) (?hd) (fun K hK=>?kd)
   case hd=>(go_simp;try rfl)
   go_simp
   refine hK _ _ ?_
   clear hK K
   have HZ:=jX (@eI_zero r)
   obtain⟨e0,he0⟩:∃ e0,eI r=e0:=⟨_,rfl⟩
   rw [he0] at HErr HZ
   rw [he0]
   clear he0
   by_cases he:e0=0
   ·subst he
    obtain⟨i,hi,hv⟩:=HZ.out rfl
    have Hi:=jX (Hrk.out.trans hi)
    have Hv:=jX hv
    have HAi:Hid (IvAt w3 g q i):=jX (by have:=HAT3.out;rw [hi] at this;exact this)
    clear hi hv HZ HErr HAT3
    rcases Nat.eq_zero_or_pos k with hk0|hk0
    ·subst hk0
     have HN:=jX (HA.out.zero hlt Hi.out Hv.out)
     go_wp2_with fail
     go_roundw
     case rel=>exact ⟨1,some i,by omega,rfl,HN.out,HK3.out⟩
     case measure=>simp [intOf];omega
    obtain⟨j,hj⟩:∃ j,k=j+1:=⟨k-1,by omega⟩
    have hjl:j<l.length:=by omega
    obtain⟨b,hb,n11,n5,nok⟩:∃ b:Iv K,l[j]'hjl=RawI.of b∧((i.f.pt<b.l.pt∨i.f<b.l)→chkL none l=11)∧(¬ (i.f.pt<b.l.pt∨i.f<b.l)→b.l=i.f→chkL none l=5)∧(¬ (i.f.pt<b.l.pt∨i.f<b.l)→b.l≠i.f→ChkAt l (k+1) (some i)):=by
     subst hj
     exact ChkAt.next HA.out hlt Hi.out Hv.out
    obtain⟨g',o',e,hg',hat'⟩:=RIQ.elem (HR.out.later HK3.out) j hjl
    injection e with e
    injection e with e1 e2
    subst e1 e2
    rw [hb] at hat'
    obtain⟨qb,hqb⟩:∃ qb,o+j*20=qb:=⟨_,rfl⟩
    rw [hqb] at hat'
    have HAb:Hid (IvAt w3 g qb b):=jX hat'
    have N11:=jX n11
    have N5:=jX n5
    have Nok:=jX nok
    have HS:=jX (seam i.f b.l)
    have H4:=jX (kcmp_c i.f.pt b.l.pt)
    have HXf:=jX (HAi.out.ldf hg3)
    have HXt:=jX (HAb.out.ldt hg3)
    have HO:=jX (fun u (hk:Keep [] w3 u)=>And.intro (HAi.out.keep (hk.block g hg3 (by simp))).opf (HAb.out.keep (hk.block g hg3 (by simp))).opt)
    unfold kv at HXf HXt H4
    have hsub:(k:Int)-1=(j:Int):=by omega
    have hjc:(j:Int)<(l.length:Int):=by omega
    have hwj:IntKind.i64.wrap (j:Int)=(j:Int):=IntWalk.i64_in _ (by omega)
    have hj0:(0:Int)≤(j:Int):=by omega
    have hjt:(j:Int).toNat=j:=by omega
    have hke:((k:Int) == 0)=false:=by rw [beq_eq_false_iff_ne];omega
    clear hb n11 n5 nok hat' hj HAi HAb
    generalize kC i.f.pt=F1 at *
    generalize kC b.l.pt=L1 at *
    obtain⟨n,hn⟩:∃ n,cmpQ i.f.pt.1 b.l.pt.1=n:=⟨_,rfl⟩
    rw [hn] at HS H4
    clear hn
    go_upto_region 8 with (fail)
    have Q1:Hid (∀ m:KW w3,Calls Tryz.prog 38 #[.agg F1,.agg L1] (Wk w3 m) fun e w'=>e = .returned (.int .i64 n)∧∃ m,w'=Wk w3 m):=fun m=>qk m (H4.out _)
    refine wp_region_keep (by kernel_rfl) (by kernel_rfl) ?_
    repeat (first
     | go_big_quiet_skip
     | (go_big_quiet_want;first
      | (refine quiet_load _ _ _ (.agg F1) rfl rfl (by rintro _ ⟨m,rfl⟩;exact HXf.out m) ?_;go_simp;go_big_quiet_on)|(refine quiet_load _ _ _ (.agg L1) rfl rfl (by rintro _ ⟨m,rfl⟩;exact HXt.out m) ?_;go_simp;go_big_quiet_on)
      | (go_big_quiet_op;first|go_big_quiet_on|go_big_quiet_call (first
       | (go_at_call 38;with_reducible exact (Q1).out _)))))
    refine wpQuiet_nil ?_
    rintro w4 ⟨⟨_,hk_w4⟩,rfl⟩
    have HK4:=jX (HK3.out.trans0 hk_w4)
    obtain⟨po,pc⟩:=HO.out _ hk_w4
    clear hk_w4 Q1 H4 HXf HXt HO
    go_upto_region 9 with (fail)
    obtain⟨x,hx⟩:∃ x,i.f.beh=x:=⟨_,rfl⟩
    obtain⟨y,hy⟩:∃ y,b.l.beh=y:=⟨_,rfl⟩
    rw [hx] at po HS
    rw [hy] at pc HS
    clear hx hy
    rcases HS.out with ⟨rfl,hs⟩|⟨rfl,rfl,rfl,hs⟩|⟨rfl,rfl,hs,hs2⟩|⟨rfl,rfl,rfl,hs,hs2⟩|⟨rfl,hs,hs2⟩
    ·have HE:=jX (N11.out hs)
     clear N11 N5 Nok hs HS
     refine wp_region_lit ?_
     generalize hA:Act.mk _ _=A9
     iterate 23 (first|(refine gWE (by subst hA;rfl) ?_;subst hA;refine ⟨?_,?_,fun K hK=>?_⟩;rotate_left;(go_simp;try rfl);go_simp;generalize hA:Act.mk _ _=A9;refine hK _ _ ?_;clear hK K)|(refine gWS (by subst hA;rfl) (fun K hK=>?_);subst hA;go_simp;generalize hA:Act.mk _ _=A9;refine hK _ _ ?_;clear hK K))
     subst hA
     go_wp2_with fail
     go_ret
     exact ⟨by rw [HE.out];rfl,HK4.out⟩
    ·have HE:=jX (N11.out hs)
     clear N11 N5 Nok hs HS
     refine wp_region_lit ?_
     generalize hA:Act.mk _ _=A9
     iterate 23 (first|(refine gWE (by subst hA;rfl) ?_;subst hA;refine ⟨?_,?_,fun K hK=>?_⟩;rotate_left;(go_simp;try rfl);go_simp;generalize hA:Act.mk _ _=A9;refine hK _ _ ?_;clear hK K)|(refine gWS (by subst hA;rfl) (fun K hK=>?_);subst hA;go_simp;generalize hA:Act.mk _ _=A9;refine hK _ _ ?_;clear hK K))
     subst hA
     go_wp2_with fail
     go_ret
     exact ⟨by rw [HE.out];rfl,HK4.out⟩
    ·have HE:=jX (N5.out hs hs2)
     clear N11 N5 Nok hs hs2 HS
     cases x
     ·skip
      refine wp_region_lit ?_
      generalize hA:Act.mk _ _=A9
      iterate 23 (first|(refine gWE (by subst hA;rfl) ?_;subst hA;refine ⟨?_,?_,fun K hK=>?_⟩;rotate_left;(go_simp;try rfl);go_simp;generalize hA:Act.mk _ _=A9;refine hK _ _ ?_;clear hK K)|(refine gWS (by subst hA;rfl) (fun K hK=>?_);subst hA;go_simp;generalize hA:Act.mk _ _=A9;refine hK _ _ ?_;clear hK K))
      subst hA
      go_upto_region 11 with (fail)
      refine wp_region_lit ?_
      generalize hA:Act.mk _ _=A9
      iterate 18 (first|(refine gWE (by subst hA;rfl) ?_;subst hA;refine ⟨?_,?_,fun K hK=>?_⟩;rotate_left;(go_simp;try rfl);go_simp;generalize hA:Act.mk _ _=A9;refine hK _ _ ?_;clear hK K)|(refine gWS (by subst hA;rfl) (fun K hK=>?_);subst hA;go_simp;generalize hA:Act.mk _ _=A9;refine hK _ _ ?_;clear hK K))
      subst hA
      go_wp2_with fail
      go_ret
      exact ⟨by rw [HE.out];rfl,HK4.out⟩
     skip
     refine wp_region_lit ?_
     generalize hA:Act.mk _ _=A9
     iterate 23 (first|(refine gWE (by subst hA;rfl) ?_;subst hA;refine ⟨?_,?_,fun K hK=>?_⟩;rotate_left;(go_simp;try rfl);go_simp;generalize hA:Act.mk _ _=A9;refine hK _ _ ?_;clear hK K)|(refine gWS (by subst hA;rfl) (fun K hK=>?_);subst hA;go_simp;generalize hA:Act.mk _ _=A9;refine hK _ _ ?_;clear hK K))
     subst hA
     go_upto_region 11 with (fail)
     refine wp_region_lit ?_
     generalize hA:Act.mk _ _=A9
     iterate 18 (first|(refine gWE (by subst hA;rfl) ?_;subst hA;refine ⟨?_,?_,fun K hK=>?_⟩;rotate_left;(go_simp;try rfl);go_simp;generalize hA:Act.mk _ _=A9;refine hK _ _ ?_;clear hK K)|(refine gWS (by subst hA;rfl) (fun K hK=>?_);subst hA;go_simp;generalize hA:Act.mk _ _=A9;refine hK _ _ ?_;clear hK K))
     subst hA
     go_wp2_with fail
     go_ret
     exact ⟨by rw [HE.out];rfl,HK4.out⟩
    ·have HE:=jX (Nok.out hs hs2)
     clear N11 N5 Nok hs hs2 HS
     refine wp_region_lit ?_
     generalize hA:Act.mk _ _=A9
     iterate 23 (first|(refine gWE (by subst hA;rfl) ?_;subst hA;refine ⟨?_,?_,fun K hK=>?_⟩;rotate_left;(go_simp;try rfl);go_simp;generalize hA:Act.mk _ _=A9;refine hK _ _ ?_;clear hK K)|(refine gWS (by subst hA;rfl) (fun K hK=>?_);subst hA;go_simp;generalize hA:Act.mk _ _=A9;refine hK _ _ ?_;clear hK K))
     subst hA
     go_upto_region 11 with (fail)
     refine wp_region_lit ?_
     generalize hA:Act.mk _ _=A9
     iterate 18 (first|(refine gWE (by subst hA;rfl) ?_;subst hA;refine ⟨?_,?_,fun K hK=>?_⟩;rotate_left;(go_simp;try rfl);go_simp;generalize hA:Act.mk _ _=A9;refine hK _ _ ?_;clear hK K)|(refine gWS (by subst hA;rfl) (fun K hK=>?_);subst hA;go_simp;generalize hA:Act.mk _ _=A9;refine hK _ _ ?_;clear hK K))
     subst hA
     go_wp2_with fail
     go_roundw
     case rel=>exact ⟨k+1,some i,by omega,congrArg (Value.int .i64) (by omega),HE.out,HK4.out⟩
     case measure=>simp [intOf];omega
    have HE:=jX (Nok.out hs hs2)
    clear N11 N5 Nok hs hs2 HS
    refine wp_region_lit ?_
    generalize hA:Act.mk _ _=A9
    iterate 23 (first|(refine gWE (by subst hA;rfl) ?_;subst hA;refine ⟨?_,?_,fun K hK=>?_⟩;rotate_left;(go_simp;try rfl);go_simp;generalize hA:Act.mk _ _=A9;refine hK _ _ ?_;clear hK K)|(refine gWS (by subst hA;rfl) (fun K hK=>?_);subst hA;go_simp;generalize hA:Act.mk _ _=A9;refine hK _ _ ?_;clear hK K))
    subst hA
    go_upto_region 11 with (fail)
    refine wp_region_lit ?_
    generalize hA:Act.mk _ _=A9
    iterate 18 (first|(refine gWE (by subst hA;rfl) ?_;subst hA;refine ⟨?_,?_,fun K hK=>?_⟩;rotate_left;(go_simp;try rfl);go_simp;generalize hA:Act.mk _ _=A9;refine hK _ _ ?_;clear hK K)|(refine gWS (by subst hA;rfl) (fun K hK=>?_);subst hA;go_simp;generalize hA:Act.mk _ _=A9;refine hK _ _ ?_;clear hK K))
    subst hA
    go_wp2_with fail
    go_roundw
    case rel=>exact ⟨k+1,some i,by omega,congrArg (Value.int .i64) (by omega),HE.out,HK4.out⟩
    case measure=>simp [intOf];omega
   have hne:(e0 != 0)=true:=by rw [bne_iff_ne];exact he
   have HE:=jX (HErr.out he)
   clear HZ HErr he
   go_wp2_with fail
   go_ret
   exact ⟨by rw [HE.out];rfl,HK3.out⟩
  obtain rfl:k=l.length:=by omega
  have HD:=jX (HA.out.done)
  go_wp2_with fail
  go_ret
  exact ⟨by rw [HD.out];rfl,HB.out⟩
end
section
open Classical
theorem chkL_from:∀ (l:List RawI) (b:Iv K),chkL (some b) l=0→∃ D:List (Iv K),l=D.map RawI.of∧NormF D b.l
 | [],b,_=>⟨[],rfl,trivial⟩
 | r :: l,b,h=>by
  have he:eI r=0:=Classical.byContradiction fun hn=>hn (by rw [← chkL_err hn (some b) l];exact h)
  obtain⟨i,rfl,hv⟩:=eI_zero he
  rw [chkL_next hv] at h
  split at h
  ·exact absurd h (by decide)
  rename_i h1
  split at h
  ·exact absurd h (by decide)
  rename_i h2
  obtain⟨D,hD,hN⟩:=chkL_from l i h
  exact ⟨i :: D,by rw [List.map_cons,hD],by grind,hv,hN⟩
theorem chkL_ok {l:List RawI} (h:chkL none l=0):∃ D:List (Iv K),l=D.map RawI.of∧Norm D:=by
 cases l with
 | nil=>exact ⟨[],rfl,trivial⟩
 | cons r l =>
  have he:eI r=0:=Classical.byContradiction fun hn=>hn (by rw [← chkL_err hn none l];exact h)
  obtain⟨i,rfl,hv⟩:=eI_zero he
  rw [chkL_first hv] at h
  obtain⟨D,hD,hN⟩:=chkL_from l i h
  exact ⟨i :: D,by rw [List.map_cons,hD],hv,hN⟩
theorem map_of_inj:∀ {D T:List (Iv K)},D.map RawI.of=T.map RawI.of→D=T
 | [],[],_=>rfl
 | [],_ :: _,h=>by cases h
 | _ :: _,[],h=>by cases h
 | i :: D,j :: T,h=>by
  rw [List.map_cons,List.map_cons] at h
  injection h with h1 h2
  rw [RawI.of_inj h1,map_of_inj h2]
theorem rir_iv {w:World} {v:Value} {D:List (Iv K)} (h:RIR w v (D.map RawI.of)):IvR w v D:=by
 rcases h with ⟨h1,h2⟩|⟨g,o,c,h1,h2,h3,h4⟩
 ·exact .inl ⟨h1,List.map_eq_nil_iff.1 h2⟩
 refine .inr ⟨g,o,c,by rw [h1,List.length_map],by rw [List.length_map] at h2;exact h2,h3,fun i v hv=>h4 i v ?_⟩
 rw [List.flatMap_map]
 exact hv
theorem RIR.riq {w:World} {v:Value} {l:List RawI} (h:RIR w v l):RIQ w v l:=by
 obtain⟨a,c,h1,_⟩:=h.form
 exact ⟨a,c,h1,.inr h⟩
noncomputable def chkB (l m:List RawI):Int :=
 if chkL none l≠0 then chkL none l else if chkL none m≠0 then chkL none m else
  if ∃ D T:List (Iv K),l=D.map RawI.of∧m=T.map RawI.of∧combK 3 T D=[] then 0 else 2
theorem chkB_l {l m:List RawI} (h:chkL none l≠0):chkB l m=chkL none l:=by unfold chkB;rw [if_pos h]
theorem chkB_m {l m:List RawI} (h:chkL none l=0) (h2:chkL none m≠0):chkB l m=chkL none m:=by unfold chkB;rw [if_neg (fun hn=>hn h),if_pos h2]
theorem chkB_v {l m:List RawI} {D T:List (Iv K)} (h:chkL none l=0) (h2:chkL none m=0) (hl:l=D.map RawI.of) (hm:m=T.map RawI.of):chkB l m=if combK 3 T D=[] then 0 else 2:=by
 unfold chkB
 rw [if_neg (fun hn=>hn h),if_neg (fun hn=>hn h2)]
 by_cases hc:combK 3 T D=[]
 ·rw [if_pos ⟨D,T,hl,hm,hc⟩,if_pos hc]
 rw [if_neg,if_neg hc]
 rintro ⟨D',T',a,b,c⟩
 rw [hl] at a
 rw [hm] at b
 rw [map_of_inj a,map_of_inj b] at hc
 exact hc c
theorem infoSlI:(Tryz.prog.info? 27).map (fun i=>(i.size,i.bytes,i.zero.map (·.cells)))=some (1,24,some #[.slice none 0 0]):=by kernel_rfl
theorem fill_s3 (a b:Option Addr) (m k n l:Nat):Instr.fill (fun i=>some (i*1,1)) ((Array.range (2*1)).map ((#[.slice none 0 0]:Array Value)[· % 1]!)) #[(0,Value.slice a m k),(1,Value.slice b n l)].toList=some #[.slice a m k,.slice b n l]:=by kernel_rfl
theorem build2_i (a b:Option Addr) (m k n l:Nat) (w:World):(Instr.buildSlice 102 2 #[(0,.slice a m k),(1,.slice b n l)]).run Tryz.prog w = .ok (.slice (some ⟨w.heap.size,0,none⟩) 2 2) (w.alloc (.cells #[.slice a m k,.slice b n l] 27)):=by
 have h:=infoSlI
 cases hi:Tryz.prog.info? 27 with
 | none=>rw [hi] at h;cases h
 | some i =>
  rw [hi] at h
  simp only [Option.map_some,Option.some.injEq,Prod.mk.injEq] at h
  obtain⟨h1,h2,h3⟩:=h
  cases hz:i.zero with
  | none=>rw [hz] at h3;cases h3
  | some z =>
   rw [hz] at h3
   simp only [Option.map_some,Option.some.injEq] at h3
   refine run_buildSlice (P:=Tryz.prog) w 102 27 2 _ _ i z Tryz.underlying102 hi hz (by rw [h1];decide) (by rw [h1];decide) ?_
   rw [h1,h3]
   exact fill_s3 _ _ _ _ _ _
theorem cov_of {l m:List RawI} {w:World} {dv tv:Value} (hr:RIR w dv l) (hq:RIR w tv m) (h6:l.length≤6) (h7:m.length≤6) (h1:chkL none l=0) (h2:chkL none m=0) :
  Calls Tryz.prog 93 #[dv,tv] w fun e w'=>e = .returned (.bool (decide (chkB l m=0)))∧Keep [] w w':=by
 obtain⟨D,hD,nD⟩:=chkL_ok h1
 obtain⟨T,hT,nT⟩:=chkL_ok h2
 rw [chkB_v h1 h2 hD hT]
 subst hD hT
 rw [List.length_map] at h6 h7
 refine (covers_c D T nD.val nT.val w dv tv (rir_iv hr) (rir_iv hq) (by omega) (by omega)).mono fun e w' ⟨he,hk⟩=>⟨?_,hk⟩
 rw [he]
 by_cases hc:combK 3 T D=[]
 ·rw [decide_eq_true hc,if_pos hc];rfl
 rw [decide_eq_false hc,if_neg hc];rfl
theorem exc_of {l m:List RawI} {w:World} {dv tv:Value} (hr:RIR w dv l) (hq:RIR w tv m) (h6:l.length≤6) (h7:m.length≤6) (h1:chkL none l=0) (h2:chkL none m=0) :
  Calls Tryz.prog 50 #[.int .i64 3,tv,dv] w fun e w'=>∃ a c n,e = .returned (.slice a n c)∧decide (0<n)=(!decide (chkB l m=0))∧Keep [] w w':=by
 obtain⟨D,hD,nD⟩:=chkL_ok h1
 obtain⟨T,hT,nT⟩:=chkL_ok h2
 rw [chkB_v h1 h2 hD hT]
 subst hD hT
 rw [List.length_map] at h6 h7
 refine (rcombine_c 3 (.inr (.inr rfl)) T D w tv dv (rir_iv hq) (rir_iv hr) (by omega) (by omega)).mono ?_
 rintro e w' ⟨v,rfl,hv,hk⟩
 obtain⟨a,c,rfl,_⟩:=hv.form
 refine ⟨a,c,_,rfl,?_,hk⟩
 cases hc:combK 3 T D with
 | nil=>rw [if_pos rfl];rfl
 | cons i r=>rw [if_neg (by simp),List.length_cons];simp
theorem chkB_02 {l m:List RawI} (h1:chkL none l=0) (h2:chkL none m=0):chkB l m=0∨chkB l m=2:=by
 obtain⟨D,hD,_⟩:=chkL_ok h1
 obtain⟨T,hT,_⟩:=chkL_ok h2
 rw [chkB_v h1 h2 hD hT]
 by_cases hc:combK 3 T D=[]
 ·rw [if_pos hc];exact .inl rfl
 rw [if_neg hc];exact .inr rfl
theorem rcheckB_c (l m:List RawI) (hs:∀ r∈l,r.sz 100000) (ht:∀ r∈m,r.sz 100000) (h6:l.length≤6) (h7:m.length≤6) (w:World) (dv tv:Value) (hr:RIR w dv l) (hq:RIR w tv m) :
  Calls Tryz.prog 56 #[.agg #[dv,tv]] w fun e w'=>e = .returned (.int .i64 (chkB l m))∧Keep [] w w':=by
 have H1:=jX (fun u (hk:Keep [] w u)=>rcheck12_c l hs u dv (RIR.riq (hr.later hk)) (by omega))
 have H2:=jX (fun u (hk:Keep [] w u)=>rcheck12_c m ht u tv (RIR.riq (hq.later hk)) (by omega))
 have H3:=jX (fun u (hk:Keep [] w u) h1 h2=>exc_of (hr.later hk) (hq.later hk) h6 h7 h1 h2)
 have Hl:=jX (@chkB_l l m)
 have Hm:=jX (@chkB_m l m)
 have Hz:=jX (@chkB_02 l m)
 obtain⟨da,dc,rfl,_⟩:=hr.form
 obtain⟨ta,tc,rfl,_⟩:=hq.form
 clear hr hq hs ht
 generalize chkL none l=x at *
 generalize chkL none m=y at *
 generalize chkB l m=z at *
 go_enter Tryz.func56,Tryz.ntmps56
 go_upto_region 1 with (fail)
 obtain⟨W,ga,hW,ega,Bga,hga,hgW,HkW⟩:=al1h w (.cells #[.slice da l.length dc,.slice ta m.length tc] 29)
 rw [← hW]
 try rw [ega]
 clear hW ega
 have pga:=cell_of Bga.out
 go_wp2_with fail
 refine (H1.out _ HkW.out).mono ?_
 rintro e w1 ⟨rfl,hk1⟩
 dsimp only
 have HK1:=jX (HkW.out.trans0 hk1)
 have Bg1:=jX (hk1.heap Bga.out (by simp))
 clear hk1 pga
 by_cases hx:x=0
 ·subst hx
  have pga:=cell_of Bg1.out
  go_wp2_with fail
  refine (H2.out _ HK1.out).mono ?_
  rintro e w2 ⟨rfl,hk2⟩
  dsimp only
  have HK2:=jX (HK1.out.trans0 hk2)
  have Bg2:=jX (hk2.heap Bg1.out (by simp))
  clear hk2 pga
  by_cases hy:y=0
  ·subst hy
   have pga:=cell_of Bg2.out
   go_wp2_with fail
   refine (H3.out _ HK2.out (by trivial) (by trivial)).mono ?_
   rintro e w3 ⟨a,c,n,rfl,hn,hk3⟩
   dsimp only
   have HK3:=jX (HK2.out.trans0 hk3)
   clear hk3 pga
   rcases Hz.out (by trivial) (by trivial) with rfl|rfl
   ·have hn:decide (0<n)=false:=hn
    have hn0:¬ 0<n:=of_decide_eq_false hn
    have hni:¬ (0:Int)<(n:Int):=by omega
    go_wp2_with fail
    go_ret
    exact ⟨rfl,HK3.out⟩
   have hn:decide (0<n)=true:=hn
   have hn0:0<n:=of_decide_eq_true hn
   have hni:(0:Int)<(n:Int):=by omega
   go_wp2_with fail
   go_ret
   exact ⟨rfl,HK3.out⟩
  have hne:(y != 0)=true:=by rw [bne_iff_ne];exact hy
  have HE:=jX (Hm.out (by trivial) hy)
  clear hy
  go_wp2_with fail
  go_ret
  exact ⟨by rw [HE.out];rfl,HK2.out⟩
 have hne:(x != 0)=true:=by rw [bne_iff_ne];exact hx
 have HE:=jX (Hl.out hx)
 clear hx
 go_wp2_with fail
 go_ret
 exact ⟨by rw [HE.out];rfl,HK1.out⟩
theorem mcheckB_p (l m:List RawI) (hs:∀ r∈l,r.sz 100000) (ht:∀ r∈m,r.sz 100000) (h6:l.length≤6) (h7:m.length≤6) (w:World) (dv tv:Value) (hr:RIR w dv l) (hq:RIR w tv m) :
  Calls Tryz.prog 55 #[.agg #[dv,tv]] w fun e w'=>e = .returned (.int .i64 (chkB l m))∧Below w.heap.size w w':=by
 have H1:=jX (fun u (hk:Below w.heap.size w u)=>pcheck_p l hs u dv (RIR.riq hr |>.laterB hk) (by omega))
 have H2:=jX (fun u (hk:Below w.heap.size w u)=>pcheck_p m ht u tv (RIR.riq hq |>.laterB hk) (by omega))
 have H3:=jX (fun u (hk:Below w.heap.size w u) h1 h2=>cov_of (hr.laterB hk) (hq.laterB hk) h6 h7 h1 h2)
 have Hl:=jX (@chkB_l l m)
 have Hm:=jX (@chkB_m l m)
 have Hz:=jX (@chkB_02 l m)
 obtain⟨da,dc,rfl,_⟩:=hr.form
 obtain⟨ta,tc,rfl,_⟩:=hq.form
 clear hr hq hs ht
 generalize chkL none l=x at *
 generalize chkL none m=y at *
 generalize chkB l m=z at *
 go_enter Tryz.func55,Tryz.ntmps55
 go_upto_region 1 with (fail)
 obtain⟨W,ga,hW,ega,Bga,hga,hgW,HkW⟩:=al1h w (.cells #[.slice da l.length dc,.slice ta m.length tc] 29)
 rw [← hW]
 try rw [ega]
 clear hW ega
 have pga:=cell_of Bga.out
 refine wp_region_lit ?_
 refine' wpList_R (v:=_) (by rfl) (?ha) (fun K hK=>?ka)
 case ha=>(go_simp;try rfl)
 go_simp
 refine hK _ _ ?_
 clear hK K
 refine' wpList_R (v:=_) (by rfl) (?hb) (fun K hK=>?kb)
 case hb=>(go_simp;try rfl)
 go_simp
 refine hK _ _ ?_
 clear hK K
 refine' wpList_R (v:=_) (by rfl) (?hc) (fun K hK=>?kc)
 case hc=>(go_simp;try rfl)
 go_simp
 refine hK _ _ ?_
 clear hK K
 refine' wpList_R (v:=_) (by rfl) (?hd) (fun K hK=>?kd)
 case hd=>(go_simp;try rfl)
 go_simp
 refine hK _ _ ?_
 clear hK K
 clear pga
 obtain⟨w1,gs,e1,e2,bgs,hgs,_,hk1⟩:=al1 W (.cells #[.slice da l.length dc,.slice ta m.length tc] 27)
 refine wpList_K (v:=.slice (some ⟨W.heap.size,0,none⟩) 2 2) (w':=W.alloc (.cells #[.slice da l.length dc,.slice ta m.length tc] 27)) (by rfl) (exec_bs 102 2 #[(0,.tmp 7),(1,.tmp 9)] #[(0,.slice da l.length dc),(1,.slice ta m.length tc)] _ rfl (by simp only [List.map_toArray,List.map_cons,List.map_nil];rfl) (build2_i _ _ _ _ _ _ _)) (fun K hK=>?_)
 rw [← e1,e2]
 clear e1 e2
 go_simp
 refine hK _ _ ?_
 clear hK K
 have HB1:=jX (HkW.out.trans0 hk1).below0
 have hga:=hk1.heap Bga.out (by simp)
 clear hk1 hgs
 go_wp2_with fail
 go_loopw [12] (fun c wr=>∃ k:Nat,k≤2∧c = .int .i64 (k:Int)∧(1≤k→x=0)∧(2≤k→y=0)∧Below w.heap.size w wr∧wr.heap[gs]? = some (.cells #[.slice da l.length dc,.slice ta m.length tc] 27)∧wr.heap[ga]? = some (.cells #[.slice da l.length dc,.slice ta m.length tc] 29)) (fun c _=>2-(intOf c).toNat)
 case atStart=>exact ⟨0,by omega,rfl,by omega,by omega,HB1.out,bgs,hga⟩
 case round =>
  obtain⟨k,hk,rfl,h1,h2,hb,hs,hg⟩:=hrel
  have HB:=jX hb
  have Bgs:=jX hs
  have Bga:=jX hg
  clear hb hs hg bgs hga
  obtain rfl|rfl|rfl:k=0∨k=1∨k=2:=by omega
  ·clear h1 h2
   have pgs:=cell_of Bgs.out
   go_wp2_with fail
   refine (H1.out _ HB.out).mono ?_
   rintro e w2 ⟨rfl,hb2⟩
   dsimp only
   have HB2:=jX (HB.out.trans (Below.mono hb2 HB.out.size))
   have B2gs:=jX ((hb2.block gs (lt_of_heap Bgs.out)).trans Bgs.out)
   clear Bgs
   have Bgs:=B2gs
   clear B2gs
   have B2ga:=jX ((hb2.block ga (lt_of_heap Bga.out)).trans Bga.out)
   clear Bga
   have Bga:=B2ga
   clear B2ga
   clear hb2 pgs
   by_cases hx:x=0
   ·subst hx
    go_wp2_with fail
    go_roundw
    case rel=>exact ⟨1,by omega,rfl,fun _=>by trivial,by omega,HB2.out,Bgs.out,Bga.out⟩
    case measure=>simp [intOf]
   have hne:(x != 0)=true:=by rw [bne_iff_ne];exact hx
   have HE:=jX (Hl.out hx)
   clear hx
   go_wp2_with fail
   go_ret
   exact ⟨by rw [HE.out];rfl,HB2.out⟩
  ·have hx:x=0:=h1 (by omega)
   subst hx
   clear h1 h2
   have pgs:=cell_of Bgs.out
   go_wp2_with fail
   refine (H2.out _ HB.out).mono ?_
   rintro e w2 ⟨rfl,hb2⟩
   dsimp only
   have HB2:=jX (HB.out.trans (Below.mono hb2 HB.out.size))
   have B2gs:=jX ((hb2.block gs (lt_of_heap Bgs.out)).trans Bgs.out)
   clear Bgs
   have Bgs:=B2gs
   clear B2gs
   have B2ga:=jX ((hb2.block ga (lt_of_heap Bga.out)).trans Bga.out)
   clear Bga
   have Bga:=B2ga
   clear B2ga
   clear hb2 pgs
   by_cases hy:y=0
   ·subst hy
    go_wp2_with fail
    go_roundw
    case rel=>exact ⟨2,by omega,rfl,fun _=>by trivial,fun _=>by trivial,HB2.out,Bgs.out,Bga.out⟩
    case measure=>simp [intOf]
   have hne:(y != 0)=true:=by rw [bne_iff_ne];exact hy
   have HE:=jX (Hm.out (by trivial) hy)
   clear hy
   go_wp2_with fail
   go_ret
   exact ⟨by rw [HE.out];rfl,HB2.out⟩
  have hx:x=0:=h1 (by omega)
  have hy:y=0:=h2 (by omega)
  subst hx hy
  clear h1 h2
  have pga:=cell_of Bga.out
  go_wp2_with fail
  refine (H3.out _ HB.out (by trivial) (by trivial)).mono ?_
  rintro e w2 ⟨rfl,hk2⟩
  dsimp only
  have HB2:=jX (HB.out.trans (Below.mono hk2.below0 HB.out.size))
  clear hk2 pga
  rcases Hz.out (by trivial) (by trivial) with rfl|rfl
  ·go_wp2_with fail
   go_ret
   exact ⟨rfl,HB2.out⟩
  go_wp2_with fail
  go_ret
  exact ⟨rfl,HB2.out⟩
end
section
open Classical
def RawR.sum (x:RawR):Nat:=x.a2.size+x.a4.size+x.b2.size+x.b4.size
theorem RawR.sum_sz {x:RawR} {k:Nat} (h:x.sum≤k):x.sz k:=by
 unfold RawR.sum at h
 unfold RawR.sz
 omega
def RawI.ok20 (r:RawI):Prop:=r.f.sum≤20∧r.t.sum≤20
noncomputable def shortL (l:List RawI):Bool:=decide (l.length≤6∧∀ r∈l,r.ok20)
theorem shortL_no {l:List RawI} {k:Nat} (hk:k<l.length) (h:6≤k ∨ ¬ (l[k]).ok20):shortL l=false:=by
 unfold shortL
 rw [decide_eq_false_iff_not]
 rintro ⟨h1,h2⟩
 rcases h with h|h
 ·omega
 exact h (h2 _ (List.getElem_mem hk))
theorem shortL_sz {l:List RawI} (h:shortL l=true):∀ r∈l,r.sz 100000:=by
 unfold shortL at h
 have h:=(of_decide_eq_true h).2
 intro r hr
 obtain⟨a,b⟩:=h r hr
 exact ⟨RawR.sum_sz (Nat.le_trans a (by decide)),RawR.sum_sz (Nat.le_trans b (by decide))⟩
theorem two_al1 (w:World) (A B:Obj):((w.alloc A).alloc B).drew.heap[w.heap.size]? = some A :=
 (Keep.drew [] _).heap ((Keep.alloc [] (w.alloc A) B).heap (World.alloc_heap_new w A) (by simp)) (by simp)
theorem two_al2 (w:World) (A B:Obj):((w.alloc A).alloc B).drew.heap[w.heap.size+1]? = some B:=by
 have h:=World.alloc_heap_new (w.alloc A) B
 have e:(w.alloc A).heap.size=w.heap.size+1:=by simp
 rw [e] at h
 exact (Keep.drew [] _).heap h (by simp)
theorem i64_fits {n:Int} (h0:0≤n) (h:n≤9000000000000000):IntKind.i64.wrap n=n:=IntWalk.i64_in _ (by omega)
theorem short12_c (l:List RawI) (hs:∀ r∈l,r.sz 140737488351232) (w:World) (sv:Value) (hr:RIQ w sv l) (h9:l.length≤9223372036854775807) :
  Calls Tryz.prog 54 #[sv] w fun e w'=>e = .returned (.bool (shortL l))∧Keep [] w w':=by
 have HR:=jX hr
 have HSz:=jX hs
 obtain⟨ao,ac,rfl,_⟩:=hr
 clear hs
 go_enter Tryz.func54,Tryz.ntmps54
 go_wp2_with fail
 go_loopw [3] (fun c wr=>∃ k:Nat,k≤l.length∧k≤6∧c = .int .i64 (k:Int)∧(∀ r∈l.take k,r.ok20)∧Keep [] w wr) (fun c _=>l.length-(intOf c).toNat)
 case atStart=>exact ⟨0,Nat.zero_le _,Nat.zero_le _,rfl,by simp,Keep.refl _ _⟩
 case round =>
  obtain⟨k,hk,hk6,rfl,hok,hb⟩:=hrel
  have HO:=jX hok
  have HB:=jX hb
  clear hok hb
  by_cases hlt:k<l.length
  ·obtain⟨g,o,rfl,hg,hat⟩:=RIQ.elem (HR.out.later HB.out) k hlt
   have HNo:=jX (fun h=>shortL_no hlt h)
   have Hsz:=jX (HSz.out l[k] (List.getElem_mem hlt))
   have HNx:=jX (List.take_succ_eq_append_getElem hlt)
   generalize l[k]=r at *
   obtain⟨q,hq⟩:∃ q,o+k*20=q:=⟨_,rfl⟩
   rw [hq] at hat
   have HC:=jX hat
   obtain⟨w1f,w2f,w3f⟩:IntKind.i64.wrap ((r.f.a2.size:Int)+(r.f.a4.size:Int))=(r.f.a2.size:Int)+(r.f.a4.size:Int)∧IntKind.i64.wrap ((r.f.a2.size:Int)+(r.f.a4.size:Int)+(r.f.b2.size:Int))=(r.f.a2.size:Int)+(r.f.a4.size:Int)+(r.f.b2.size:Int)∧IntKind.i64.wrap ((r.f.a2.size:Int)+(r.f.a4.size:Int)+(r.f.b2.size:Int)+(r.f.b4.size:Int))=(r.f.a2.size:Int)+(r.f.a4.size:Int)+(r.f.b2.size:Int)+(r.f.b4.size:Int):=by
    have:=Hsz.out
    unfold RawI.sz RawR.sz at this
    exact ⟨i64_fits (by omega) (by omega),i64_fits (by omega) (by omega),i64_fits (by omega) (by omega)⟩
   have hdf:decide ((20:Int)<(r.f.a2.size:Int)+(r.f.a4.size:Int)+(r.f.b2.size:Int)+(r.f.b4.size:Int)) = !decide (r.f.sum≤20):=by
    unfold RawR.sum
    rw [Bool.eq_iff_iff,decide_eq_true_iff,Bool.not_eq_true',decide_eq_false_iff_not]
    omega
   obtain⟨w1t,w2t,w3t⟩:IntKind.i64.wrap ((r.t.a2.size:Int)+(r.t.a4.size:Int))=(r.t.a2.size:Int)+(r.t.a4.size:Int)∧IntKind.i64.wrap ((r.t.a2.size:Int)+(r.t.a4.size:Int)+(r.t.b2.size:Int))=(r.t.a2.size:Int)+(r.t.a4.size:Int)+(r.t.b2.size:Int)∧IntKind.i64.wrap ((r.t.a2.size:Int)+(r.t.a4.size:Int)+(r.t.b2.size:Int)+(r.t.b4.size:Int))=(r.t.a2.size:Int)+(r.t.a4.size:Int)+(r.t.b2.size:Int)+(r.t.b4.size:Int):=by
    have:=Hsz.out
    unfold RawI.sz RawR.sz at this
    exact ⟨i64_fits (by omega) (by omega),i64_fits (by omega) (by omega),i64_fits (by omega) (by omega)⟩
   have hdt:decide ((20:Int)<(r.t.a2.size:Int)+(r.t.a4.size:Int)+(r.t.b2.size:Int)+(r.t.b4.size:Int)) = !decide (r.t.sum≤20):=by
    unfold RawR.sum
    rw [Bool.eq_iff_iff,decide_eq_true_iff,Bool.not_eq_true',decide_eq_false_iff_not]
    omega
   have hkc:(k:Int)<(l.length:Int):=by omega
   have hk0:(0:Int)≤(k:Int):=by omega
   clear hat
   go_upto_region 4 with (fail)
   go_cut [4,5] (fun xv yv wx=>∃ g4 g5:Nat,xv = .pointer (some ⟨g4,0,none⟩)∧yv = .pointer (some ⟨g5,0,none⟩)∧wx.heap[g4]? = some (.cells #[.bool r.f.a1,.string r.f.a2,.bool r.f.a3,.string r.f.a4,.bool r.f.b1,.string r.f.b2,.bool r.f.b3,.string r.f.b4,.bool r.f.n] 36)∧wx.heap[g5]? = some (.cells #[.bool r.t.a1,.string r.t.a2,.bool r.t.a3,.string r.t.a4,.bool r.t.b1,.string r.t.b2,.bool r.t.b3,.string r.t.b4,.bool r.t.n] 36)∧Keep [] wr wx)
   case first =>
    have c0:wr.cell? ⟨g,q,none⟩=some (.bool r.f.a1):=HC.out 0 _ rfl
    have c1:wr.cell? ⟨g,q+1,none⟩=some (.string r.f.a2):=HC.out 1 _ rfl
    have c2:wr.cell? ⟨g,q+2,none⟩=some (.bool r.f.a3):=HC.out 2 _ rfl
    have c3:wr.cell? ⟨g,q+3,none⟩=some (.string r.f.a4):=HC.out 3 _ rfl
    have c4:wr.cell? ⟨g,q+4,none⟩=some (.bool r.f.b1):=HC.out 4 _ rfl
    have c5:wr.cell? ⟨g,q+5,none⟩=some (.string r.f.b2):=HC.out 5 _ rfl
    have c6:wr.cell? ⟨g,q+6,none⟩=some (.bool r.f.b3):=HC.out 6 _ rfl
    have c7:wr.cell? ⟨g,q+7,none⟩=some (.string r.f.b4):=HC.out 7 _ rfl
    have c8:wr.cell? ⟨g,q+8,none⟩=some (.bool r.f.n):=HC.out 8 _ rfl
    have c9:wr.cell? ⟨g,q+9,none⟩=some (.bool r.t.a1):=HC.out 9 _ rfl
    have c10:wr.cell? ⟨g,q+10,none⟩=some (.string r.t.a2):=HC.out 10 _ rfl
    have c11:wr.cell? ⟨g,q+11,none⟩=some (.bool r.t.a3):=HC.out 11 _ rfl
    have c12:wr.cell? ⟨g,q+12,none⟩=some (.string r.t.a4):=HC.out 12 _ rfl
    have c13:wr.cell? ⟨g,q+13,none⟩=some (.bool r.t.b1):=HC.out 13 _ rfl
    have c14:wr.cell? ⟨g,q+14,none⟩=some (.string r.t.b2):=HC.out 14 _ rfl
    have c15:wr.cell? ⟨g,q+15,none⟩=some (.bool r.t.b3):=HC.out 15 _ rfl
    have c16:wr.cell? ⟨g,q+16,none⟩=some (.string r.t.b4):=HC.out 16 _ rfl
    have c17:wr.cell? ⟨g,q+17,none⟩=some (.bool r.t.n):=HC.out 17 _ rfl
    go_region
    ·have hk:Keep [] wr (((wr.alloc (.cells #[.bool r.f.a1,.string r.f.a2,.bool r.f.a3,.string r.f.a4,.bool r.f.b1,.string r.f.b2,.bool r.f.b3,.string r.f.b4,.bool r.f.n] 36)).alloc (.cells #[.bool r.t.a1,.string r.t.a2,.bool r.t.a3,.string r.t.a4,.bool r.t.b1,.string r.t.b2,.bool r.t.b3,.string r.t.b4,.bool r.t.n] 36)).drew):=((Keep.alloc _ _ _).trans0 (Keep.alloc _ _ _)).trans0 (Keep.drew _ _)
     go_wp2_with fail
     go_meet
     exact ⟨_,_,rfl,rfl,two_al1 _ _ _,two_al2 _ _ _,hk⟩
    have hk:Keep [] wr (((wr.alloc (.cells #[.bool r.t.a1,.string r.t.a2,.bool r.t.a3,.string r.t.a4,.bool r.t.b1,.string r.t.b2,.bool r.t.b3,.string r.t.b4,.bool r.t.n] 36)).alloc (.cells #[.bool r.f.a1,.string r.f.a2,.bool r.f.a3,.string r.f.a4,.bool r.f.b1,.string r.f.b2,.bool r.f.b3,.string r.f.b4,.bool r.f.n] 36)).drew):=((Keep.alloc _ _ _).trans0 (Keep.alloc _ _ _)).trans0 (Keep.drew _ _)
    go_wp2_with fail
    go_meet
    exact ⟨_,_,rfl,rfl,two_al2 _ _ _,two_al1 _ _ _,hk⟩
   obtain⟨g4,g5,rfl,rfl,b4,b5,hk5⟩:=hcut
   rename World=>w5
   have HK5:=jX (HB.out.trans0 hk5)
   have d4:=cell_of b4
   have d5:=cell_of b5
   clear b4 b5 hk5
   go_upto_region 5 with (fail)
   by_cases h6:6≤k
   ·have HE:=jX (HNo.out (.inl h6))
    have hd6:(6:Int)≤(k:Int):=by omega
    refine wp_region_lit ?_
    generalize hA:Act.mk _ _=A9
    iterate 54 (first|(refine gWE (by subst hA;rfl) ?_;subst hA;refine ⟨?_,?_,fun K hK=>?_⟩;rotate_left;(go_simp;try rfl);go_simp;generalize hA:Act.mk _ _=A9;refine hK _ _ ?_;clear hK K)|(refine gWS (by subst hA;rfl) (fun K hK=>?_);subst hA;go_simp;generalize hA:Act.mk _ _=A9;refine hK _ _ ?_;clear hK K))
    subst hA
    go_wp2_with fail
    go_ret
    exact ⟨by rw [HE.out];rfl,HK5.out⟩
   have hd6:¬ (6:Int)≤(k:Int):=by omega
   by_cases hf:r.f.sum≤20
   ·rw [decide_eq_true hf,Bool.not_true] at hdf
    by_cases ht:r.t.sum≤20
    ·rw [decide_eq_true ht,Bool.not_true] at hdt
     have HE:Hid (∀ x∈l.take (k+1),x.ok20):=jX (by
      intro x hx
      rw [HNx.out] at hx
      rcases List.mem_append.1 hx with hx|hx
      ·exact HO.out x hx
      obtain rfl:=List.mem_singleton.1 hx
      exact ⟨hf,ht⟩)
     clear hf ht HNo HNx HO
     refine wp_region_lit ?_
     generalize hA:Act.mk _ _=A9
     iterate 54 (first|(refine gWE (by subst hA;rfl) ?_;subst hA;refine ⟨?_,?_,fun K hK=>?_⟩;rotate_left;(go_simp;try rfl);go_simp;generalize hA:Act.mk _ _=A9;refine hK _ _ ?_;clear hK K)|(refine gWS (by subst hA;rfl) (fun K hK=>?_);subst hA;go_simp;generalize hA:Act.mk _ _=A9;refine hK _ _ ?_;clear hK K))
     subst hA
     go_wp2_with fail
     go_roundw
     case rel=>exact ⟨k+1,by omega,by omega,congrArg (Value.int .i64) (by omega),HE.out,HK5.out⟩
     case measure=>simp [intOf];omega
    rw [decide_eq_false ht,Bool.not_false] at hdt
    have HE:=jX (HNo.out (.inr (fun h=>ht h.2)))
    clear hf ht HNo HNx HO
    refine wp_region_lit ?_
    generalize hA:Act.mk _ _=A9
    iterate 54 (first|(refine gWE (by subst hA;rfl) ?_;subst hA;refine ⟨?_,?_,fun K hK=>?_⟩;rotate_left;(go_simp;try rfl);go_simp;generalize hA:Act.mk _ _=A9;refine hK _ _ ?_;clear hK K)|(refine gWS (by subst hA;rfl) (fun K hK=>?_);subst hA;go_simp;generalize hA:Act.mk _ _=A9;refine hK _ _ ?_;clear hK K))
    subst hA
    go_wp2_with fail
    go_ret
    exact ⟨by rw [HE.out];rfl,HK5.out⟩
   rw [decide_eq_false hf,Bool.not_false] at hdf
   have HE:=jX (HNo.out (.inr (fun h=>hf h.1)))
   clear hf HNo HNx HO
   refine wp_region_lit ?_
   generalize hA:Act.mk _ _=A9
   iterate 54 (first|(refine gWE (by subst hA;rfl) ?_;subst hA;refine ⟨?_,?_,fun K hK=>?_⟩;rotate_left;(go_simp;try rfl);go_simp;generalize hA:Act.mk _ _=A9;refine hK _ _ ?_;clear hK K)|(refine gWS (by subst hA;rfl) (fun K hK=>?_);subst hA;go_simp;generalize hA:Act.mk _ _=A9;refine hK _ _ ?_;clear hK K))
   subst hA
   go_wp2_with fail
   go_ret
   exact ⟨by rw [HE.out];rfl,HK5.out⟩
  obtain rfl:k=l.length:=by omega
  have HE:Hid (shortL l=true):=jX (by
   unfold shortL
   rw [decide_eq_true_iff]
   have h:=HO.out
   rw [List.take_length] at h
   exact ⟨hk6,h⟩)
  go_wp2_with fail
  go_ret
  exact ⟨by rw [HE.out];rfl,HB.out⟩
end
end Go.Proofs.YtejegogbhpmgfaaGreatDoor
