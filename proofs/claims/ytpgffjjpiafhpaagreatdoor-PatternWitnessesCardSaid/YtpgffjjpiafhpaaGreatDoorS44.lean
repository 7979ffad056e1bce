/- Parts of a proof: Hv. -/
import Derived.Test.YtpgffjjpiafhpaaGreatDoorS43
import Derived.Test.YtpgffjjpiafhpaaGreatDoorS15
import Derived.Test.YtpgffjjpiafhpaaGreatDoorS42
set_option linter.unusedVariables false
set_option linter.unusedSimpArgs false
set_option maxRecDepth 100000
set_option maxHeartbeats 8000000
namespace Go.Proofs.YtpgffjjpiafhpaaGreatDoor
open Go.RowKit Tryz
section
open Classical
theorem ydD (w:World) (v0:Value) (m0:EvsArg w v0) :
  Calls prog 13 #[v0] w fun e w'=>e = .returned (.bool true)∧Below w.heap.size w w':=by
 obtain⟨l,hr⟩:=m0;have HA:=jX hr;obtain⟨ao,ac,rfl,hl9⟩:=hr.form;clear hr;have HK:=jX (fun u=>known51_c u);by_cases h0:l.length=0
 ·have hi:((l.length:Int) == 0)=true:=by rw [beq_iff_eq];omega
  go_enter func13,ntmps13
  go_wp2_with fail;refine (HK.out _).mono ?_;rintro e w1 ⟨rfl,hb⟩;dsimp only;have HB:=jX hb;clear hb;go_wp2_with fail;refine (HK.out _).mono ?_;rintro e w2 ⟨rfl,hb⟩;dsimp only;have HB:=jX (HB.out.trans (Below.mono hb HB.out.size));clear hb;go_wp2_with fail;go_ret
  exact ⟨rfl,HB.out⟩
 have hi:((l.length:Int) == 0)=false:=by rw [beq_eq_false_iff_ne];omega
 clear hl9;go_enter func13,ntmps13
 go_wp2_with fail;refine (HK.out _).mono ?_;rintro e w1 ⟨rfl,hb⟩;dsimp only;have HB:=jX hb;have HS:=jX (Steps_s l w1 _ (HA.out.later hb));clear hb HA HK;go_wp2_with fail;refine HS.out.mono ?_;rintro e w2 ⟨xa,xc,svs,rfl,hst,hgd,hso,hln,hb⟩;dsimp only;have HB:=jX (HB.out.trans (Below.mono hb HB.out.size));have HR:=jX hst;have h1:0<svs.length:=by omega
 have h4:svs.length≤4:=by omega
 have hh:∀ i,Hs (sAt (stS svs) i):=fun i=>by rw [hso];exact steps_hs l i
 have hp:∀ i,0≤(sAt (stS svs) i).g∧(sAt (stS svs) i).a≤(sAt (stS svs) i).b:=fun i=>by
  by_cases hi:i<svs.length
  ·rw [yaY hi]
   exact hgd.pos _ (List.mem_map_of_mem (List.getElem_mem hi))
  unfold sAt;rw [List.getD_eq_getElem?_getD,List.getElem?_eq_none (by unfold stS;rw [List.length_map];omega)];exact ⟨Rat.le_refl,Rat.le_refl⟩
 have hsk:=StsOk.at _ hgd.ok;have CW:=jX (fun u sv (h:StR u sv svs)=>witness_c svs hgd hh h1 h4 u sv h hp);by_cases hz:livAt (sAt (stS svs)) svs.length 0=[]
 ·have C1:=jX (fun u sv (h:StR u sv svs)=>Witness_no svs hgd h1 h4 u sv h hz)
  have Hz:=jX hz;clear hb HS hst hgd hso hln hi h0 hh hp hsk hz;go_wp2_with fail;refine (C1.out _ _ HR.out).mono ?_;rintro e w3 ⟨rfl,hb⟩;dsimp only;have HB:=jX (HB.out.trans (Below.mono hb HB.out.size));have HR:=jX (HR.out.grow hb);clear hb C1;go_wp2_with fail;refine (CW.out _ _ HR.out).mono ?_;rintro e w4 ⟨hb,⟨hne,_⟩|⟨_,rfl⟩⟩
  ·exact absurd Hz.out hne
  dsimp only;have HB:=jX (HB.out.trans (Below.mono hb HB.out.size));clear hb CW HR;go_wp2_with fail;go_ret
  exact ⟨rfl,HB.out⟩
 have C1:=jX (fun u sv (h:StR u sv svs)=>Witness_yes svs hgd hh h1 h4 u sv h hp hz)
 have h00:0<(livAt (sAt (stS svs)) svs.length 0).length:=by
  cases e:livAt (sAt (stS svs)) svs.length 0 with
  | nil=>exact absurd e hz
  | cons I r=>exact Nat.succ_pos _
 obtain⟨hpk,hb0,hl0⟩:=yeN hsk hh h4 _ (List.getElem_mem h00);clear hpk;have hws:wst (sAt (stS svs)) svs.length=yaT (livAt (sAt (stS svs)) svs.length 0)[0]:=yeY h00;rw [← hws] at hb0 hl0;have hA:=fun i=>ydE hsk hh h4 i;have hfl:=ydg (sAt (stS svs)) (livAt (sAt (stS svs)) svs.length) (wst (sAt (stS svs)) svs.length) svs.length;have hall1:hall (sAt (stS svs)) (tAt (frmL (sAt (stS svs)) (livAt (sAt (stS svs)) svs.length) (wst (sAt (stS svs)) svs.length) svs.length)) svs.length=true:=frm_all hsk hh h4 hp hb0 hl0;have hsm:=frmL_sm hsk hh hA hb0 h4;have C2:=jX (fun u sv tv (h:StR u sv svs) (k:KR u tv (frmL (sAt (stS svs)) (livAt (sAt (stS svs)) svs.length) (wst (sAt (stS svs)) svs.length) svs.length))=>holds_p svs _ hgd h1 h4 hfl 50017 (by decide) hsm u sv tv h k);have C3:=jX (fun u sv tv (h:StR u sv svs) (k:KR u tv (frmL (sAt (stS svs)) (livAt (sAt (stS svs)) svs.length) (wst (sAt (stS svs)) svs.length) svs.length))=>rholds_c svs _ hgd h1 h4 hfl 50017 (by decide) hsm u sv tv h k);rw [hall1] at C2 C3;have C4:=jX (fun u a b c d (h:KR u (.slice a svs.length c) _) (k:KR u (.slice b svs.length d) _)=>yin (frmL (sAt (stS svs)) (livAt (sAt (stS svs)) svs.length) (wst (sAt (stS svs)) svs.length) svs.length) svs.length hfl (by omega) u a b c d h k);have Hz:=jX hz;clear hb HS hst hgd hso hln hi h0 hh hp hsk hz h00 hb0 hl0 hws hA hfl hall1 hsm;have CW:=jX (fun u sv (h:StR u sv svs)=>(CW.out u sv h).mono fun e u' (hw:WrPost _ _ u e u')=>wr_yes hw Hz.out);generalize frmL (sAt (stS svs)) (livAt (sAt (stS svs)) svs.length) (wst (sAt (stS svs)) svs.length) svs.length=ts at *;clear Hz;go_wp2_with fail;refine (C1.out _ _ HR.out).mono ?_;rintro e w3 ⟨⟨a1,c1,rfl,k1⟩,hb⟩;dsimp only;have HB:=jX (HB.out.trans (Below.mono hb HB.out.size));have HR:=jX (HR.out.grow hb);have K1:=jX k1;clear hb C1 k1;go_wp2_with fail;refine (CW.out _ _ HR.out).mono ?_;rintro e w4 ⟨hb,a2,c2,rfl,k2⟩;dsimp only;have HB:=jX (HB.out.trans (Below.mono hb HB.out.size));have HR:=jX (HR.out.grow hb);have K1:=jX (K1.out.laterB hb);have K2:=jX k2;clear hb CW k2;go_wp2_with fail;refine (C2.out _ _ _ HR.out K1.out).mono ?_;rintro e w5 ⟨rfl,hb⟩;dsimp only;have HB:=jX (HB.out.trans (Below.mono hb HB.out.size));have HR:=jX (HR.out.grow hb);have K1:=jX (K1.out.laterB hb);have K2:=jX (K2.out.laterB hb);clear hb C2;go_upto_region 9 with (fail)
 refine wp_region_lit ?_;iterate 2 (first|(refine gV (fun _ _=>?_);go_simp;go_step)|(refine gS (fun _ _=>?_);go_simp;go_step))
 refine wE 68 #[.slice a1 svs.length c1,.slice a2 svs.length c2] (C4.out _ _ _ _ _ K1.out K2.out) (fun w6 hb _ _=>?_);go_simp;go_step;have HB:=jX (HB.out.trans (Below.mono hb HB.out.size));have HR:=jX (HR.out.grow hb);have K1:=jX (K1.out.laterB hb);clear hb C4 K2;iterate 14 (first|(refine gV (fun _ _=>?_);go_simp;go_step)|(refine gS (fun _ _=>?_);go_simp;go_step))
 refine gE 64 #[.slice xa svs.length xc,.slice a1 svs.length c1] (C3.out _ _ _ HR.out K1.out) (fun w7 hb _ _=>?_);go_simp;go_step;have HB:=jX (HB.out.trans (Below.mono hb HB.out.size));clear hb C3 K1 HR;iterate 1 (first|(refine gV (fun _ _=>?_);go_simp;go_step)|(refine gS (fun _ _=>?_);go_simp;go_step))
 go_wp2_with fail;go_ret
 exact ⟨rfl,HB.out⟩
end
end Go.Proofs.YtpgffjjpiafhpaaGreatDoor
