/- Parts of a proof about this translation: Ga. -/
import Derived.Test.YtejegogbhpmgfaaGreatDoorA37
set_option linter.unusedVariables false
set_option linter.unusedSimpArgs false
set_option maxRecDepth 100000
set_option maxHeartbeats 8000000
namespace Go.Proofs.YtejegogbhpmgfaaGreatDoor
open Go.RowKit
open Classical
theorem ma {α:Type} {x:α} {L:List α} (k:Nat) (h:L[k]? = some x):x∈L:=List.mem_of_getElem? h
structure MovC (S:List K) (w:World) (v:Value) (D T:List (Iv K)):Prop where
 form:∃ ao an ac bo bn bc,v = .agg #[.slice ao an ac,.slice bo bn bc]
 nD:Norm D
 nT:Norm T
 sub:SubL T D
 call:∀ b u M,Keep [] w b→MP S b u M→Calls Tryz.prog 15 #[v] u (BolPost S b M D T)
theorem movC_of {w:World} {v:Value} (h:MovArg w v):∃ l:List K,l.length≤100∧∃ D T,∀ S,(∀ x∈l,x∈S)→MovC S w v D T:=by
 obtain⟨dv,tv,rfl,⟨dl,hd,h9⟩,⟨tl,ht,h8⟩⟩:=h
 refine ⟨ptsL (ivsOf dl)++ptsL (ivsOf tl),?_,perOf dl,combK 2 (perOf tl) (perOf dl),fun S hS=>⟨?_,perOf_norm _,combK_norm _ _ _,sub_mk _ _,fun b u M hk hm=>?_⟩⟩
 ·have:=ptsOf_len dl
  have:=ptsOf_len tl
  rw [List.length_append]
  omega
 ·obtain⟨ao,ac,rfl,_⟩:=hd
  obtain⟨bo,bc,rfl,_⟩:=ht
  exact ⟨_,_,_,_,_,_,rfl⟩
 ·exact hm.lbool (hd.later hk) (ht.later hk) h9 h8 (fun x hx=>hS x (List.mem_append_left _ hx)) (fun x hx=>hS x (List.mem_append_right _ hx))
section
variable {P:Program} {ops:Array Oper} {md:Region.Mode} {S:World→Prop} {Q:Exit→Act→World→Prop}
end
section
variable {S:List K} {w0 w w' W:World} {L M:List (Value × List (Iv K))} {D T E U P:List (Iv K)} {da ta ea ua pa:Option Addr} {dc tc ec uc pc:Nat}
end
end Go.Proofs.YtejegogbhpmgfaaGreatDoor
