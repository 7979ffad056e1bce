/- Parts of a proof: Ga Ig Yd Id Ye. -/
import Derived.IntWalk
import Derived.RegionTactic
import Derived.ChangeAlike
import Derived.BigRegion
import Derived.Test.YtejegogbhpmgfaaGreatDoorG41
import Derived.Test.YtejegogbhpmgfaaGreatDoorG36
import Derived.Test.YtejegogbhpmgfaaGreatDoorG37
import Derived.Test.YtejegogbhpmgfaaGreatDoorG24
import Derived.Test.YtejegogbhpmgfaaGreatDoorG35
import Derived.Test.YtejegogbhpmgfaaGreatDoorG32
import Derived.Test.YtejegogbhpmgfaaGreatDoorG38
import Derived.Test.YtejegogbhpmgfaaGreatDoorG02
import Derived.Test.YtejegogbhpmgfaaGreatDoorG22
import Derived.Test.YtejegogbhpmgfaaGreatDoorG39
set_option linter.unusedVariables false
set_option linter.unusedSimpArgs false
set_option maxRecDepth 100000
set_option maxHeartbeats 8000000
namespace Go.Proofs.YtejegogbhpmgfaaGreatDoor
open Go.RowKit Tryz
section
open Classical
section
variable {S:List K} {w0 w w' W:World} {L M:List (Value × List (Iv K))} {D T E U P:List (Iv K)} {da ta ea ua pa:Option Addr} {dc tc ec uc pc:Nat}
theorem MP.reqT (h:MP S w0 w L) (hD:(.slice da D.length dc,D)∈L) (hT:(.slice ta T.length tc,T)∈L) (hE:(.slice ea E.length ec,E)∈L) (hU:(.slice ua U.length uc,U)∈L) (h1:D=E) (h2:T=U) :
  Calls prog 27 #[.agg #[.slice da D.length dc,.slice ta T.length tc],.agg #[.slice ea E.length ec,.slice ua U.length uc]] w (BoolPost S w0 L true):=by
 have:=h.req hD hT hE hU;rw [decide_eq_true h1,decide_eq_true h2] at this;exact this
end
end
section
open Classical
section
variable {S:List K} {w0 w:World} {L:List (Value × List (Iv K))} {D T l:List (Iv K)} {v:Value} {da ta:Option Addr} {dc tc:Nat} {q:Rat} {k0:Nat}
theorem sub_nil {T D:List (Iv K)} (hs:SubL T D):yax 3 T D=[]:=(hasL_ne (ybw 3 T D)).2 fun x=>by
 rw [ycL];cases hT:hasL T x with
 | false=>rfl
 | true=>rw [hs x hT];rfl
theorem MP.mcheckZ (h:MP S w0 w L) (hD:(.slice da D.length dc,D)∈L) (hT:(.slice ta T.length tc,T)∈L) (hs:SubL T D):Calls prog 55 #[.agg #[.slice da D.length dc,.slice ta T.length tc]] w fun e w'=>e = .returned (.int .i64 0)∧Below w.heap.size w w':=by
 have nD:=(h.per _ hD).norm;have nT:=(h.per _ hT).norm;have z1:=yhj nD;have z2:=yhj nT
 have:=mcheckB_p (D.map RawI.of) (T.map RawI.of) (fun r hr=>by obtain⟨i,_,rfl⟩:=List.mem_map.1 hr;exact yik i) (fun r hr=>by obtain⟨i,_,rfl⟩:=List.mem_map.1 hr;exact yik i)
  (by rw [List.length_map];exact h.len hD) (by rw [List.length_map];exact h.len hT) w _ _ (iv_rir (h.get hD)) (iv_rir (h.get hT))
 rw [chkB_v z1 z2 rfl rfl,if_pos (sub_nil hs)] at this;exact this
end
end
section
open Classical
theorem SpQ.laterB {w w':World} {v:Value} {l:List SpanA} (h:SpQ w v l) (hb:Below w.heap.size w w'):SpQ w' v l:=by
 obtain⟨a,c,h1,h2⟩:=h;exact ⟨a,c,h1,h2.imp id (fun h=>RowE.laterB h hb)⟩
theorem perB {w:World} {v:Value} {dl:List SpanA} (hd:SpQ w v dl) (h9:dl.length≤9223372036854775807) {S:List K} (hS:∀ x∈ptsL (ivsOf dl),x∈S) (b u:World) (M:List (Value × List (Iv K))) (hb:Below w.heap.size w b) (hm:MP S b u M):Calls prog 45 #[v] u (PerPost S b M (yhE dl)) :=
 hm.period (hd.laterB hb) h9 hS
section
variable {S:List K} {w0 w w' W:World} {L M:List (Value × List (Iv K))} {D T E U P:List (Iv K)} {da ta ea ua pa:Option Addr} {dc tc ec uc pc:Nat}
theorem MP.mconst0 (h:MP S w0 w L) (hP:(.slice pa P.length pc,P)∈L):Calls prog 58 #[.bool false,.slice pa P.length pc] w (BolPost S w0 L P []):=by
 have H0:=jX h;have hP:=jX hP;clear h;have hn:(([]:List (Iv K)).length)=0:=rfl;go_enter func58,ntmps58
 go_upto_region 1 with (fail)
 obtain⟨W,ga,hW,ega,Bga,hga,hgW,HkW⟩:=al1h w (.cells #[.slice none 0 0,.slice none 0 0] 29);rw [← hW];try rw [ega]
 clear hW ega;have HM:=jX (H0.out.here.move HkW.out).here;go_wp2_with fail;refine (HM.out.clone (v:=.slice pa P.length pc) (a:=P) (by simp [hP.out])).mono ?_;rintro e w1 ⟨vo_w1,vc_w1,rfl,hm_w1⟩;dsimp only;have HM:=jX hm_w1;clear hm_w1;go_upto_region 2 with (fail)
 obtain⟨w2,gn,e2,e3,bn,hgn,_,hk2⟩:=al1 w1 (.cells #[.slice vo_w1 P.length vc_w1,.slice none 0 0] 29);rw [← e2,e3];clear e2 e3;have HM:=jX (HM.out.move hk2);have Bn:=jX bn;clear bn hk2;have hnil:MP S W w2 ((.slice none ([]:List (Iv K)).length 0,[]) :: (.slice vo_w1 P.length vc_w1,P) :: L):=HM.out.add (Keep.refl _ _) (RowE.nil _) (Per.nil S);have HM:=jX hnil;clear hnil;have pgn:=yaa Bn.out;have bz:=jX (HM.out.keep.heap Bga.out (by simp));have pga:=yaa bz.out;have fga:=yaf bz.out;have lga:=yab bz.out;go_wp2_with fail;obtain⟨u9,e9,b9,k9⟩:=st2 (x:=.slice vo_w1 P.length vc_w1) (y:=.slice none 0 0) bz.out;rw [← e9];clear e9 pga fga lga;have pga:=yaa b9;refine bodyPost_ret (v:=.agg #[.slice vo_w1 P.length vc_w1,.slice none 0 0]) ?_ rfl ⟨vo_w1,vc_w1,none,0,rfl,MP.fin H0.out.keep HkW.out HM.out bz.out (by simp) (by omega) k9 ?_⟩
 ·rw [yah rfl];go_simp
 intro p hp;simp only [List.mem_cons] at hp ⊢;grind
theorem MP.rmakeR (h:MP S w0 w L) {l m:List RawI} (hr:RIR w0 (.slice da l.length dc) l) (hq:RIR w0 (.slice ta m.length tc) m) (hD:l=D.map RawI.of) (hT:m=T.map RawI.of) {A B:List (Iv K)} (hA:ybE D=A) (hB:yax 2 T D=B) (pA:Per S A) (pB:Per S B) (hl:l.length≤10000) (hm:m.length≤10000) :
  Calls prog 60 #[.slice da l.length dc,.slice ta m.length tc] w (BolPost S w0 L A B):=by
 have H0:=jX h;have hlD:D.length≤10000:=by have:=congrArg List.length hD;rw [List.length_map] at this;omega
 have hlT:T.length≤10000:=by have:=congrArg List.length hT;rw [List.length_map] at this;omega
 have K1:=jX (fun b u N (hk:Keep [] w0 b) (hm:MP S b u N)=>ycl hm pA (hA ▸ ygZ D u (.slice da l.length dc) (yeI (by rw [← hD];exact (hr.later hk).later hm.keep)) hlD));have K2:=jX (fun b u N (hk:Keep [] w0 b) (hm:MP S b u N)=>ycl hm pB (hB ▸ yfH 2 (by simp) T D u (.slice ta m.length tc) (.slice da l.length dc) (yeI (by rw [← hT];exact (hq.later hk).later hm.keep)) (yeI (by rw [← hD];exact (hr.later hk).later hm.keep)) hlT hlD));clear h hr hq hD hT hA hB pA pB;go_enter func60,ntmps60
 go_upto_region 1 with (fail)
 obtain⟨W,ga,hW,ega,Bga,hga,hgW,HkW⟩:=al1h w (.cells #[.slice none 0 0,.slice none 0 0] 29);rw [← hW];try rw [ega]
 clear hW ega;have HM:=jX (H0.out.here.move HkW.out).here;go_wp2_with fail;refine (K1.out _ _ _ (H0.out.keep.tz HkW.out) HM.out).mono ?_;rintro e w1 ⟨vo_w1,vc_w1,rfl,hm_w1⟩;dsimp only;have HM:=jX hm_w1;clear hm_w1;go_wp2_with fail;refine (K2.out _ _ _ (H0.out.keep.tz HkW.out) HM.out).mono ?_;rintro e w2 ⟨vo_w2,vc_w2,rfl,hm_w2⟩;dsimp only;have HM:=jX hm_w2;clear hm_w2;have bz:=jX (HM.out.keep.heap Bga.out (by simp));have pga:=yaa bz.out;have fga:=yaf bz.out;have lga:=yab bz.out;go_wp2_with fail;obtain⟨u9,e9,b9,k9⟩:=st2 (x:=.slice vo_w1 A.length vc_w1) (y:=.slice vo_w2 B.length vc_w2) bz.out;rw [← e9];clear e9 pga fga lga;have pga:=yaa b9;refine bodyPost_ret (v:=.agg #[.slice vo_w1 A.length vc_w1,.slice vo_w2 B.length vc_w2]) ?_ rfl ⟨_,_,_,_,rfl,MP.fin H0.out.keep HkW.out HM.out bz.out (by simp) (by omega) k9 ?_⟩
 ·rw [yah rfl];go_simp
 intro p hp;simp only [List.mem_cons] at hp ⊢;grind
end
theorem yjl {l m:List RawI} {dl:List SpanA} (hl:l.length≤100) (hm:m.length≤100):∃ (S:List K) (A B:List (Iv K)),S.length≤1000∧(∀ x∈ptsL (ivsOf dl),x∈S)∧Per S A∧Per S B∧SubL B A∧(fstE (l++m)≠0→A=[]∧B=[]) ∧
  (fstE (l++m)=0→∃ D T:List (Iv K),l=D.map RawI.of∧m=T.map RawI.of∧(∀ i∈D,i.f<i.l)∧(∀ i∈T,i.f<i.l)∧A=ybE D∧B=yax 2 (ybE D) (ybE T)∧(ybE D).length≤10000∧(ybE T).length≤10000∧yax 2 T D=B):=by
 have hp:=ptsOf_len dl;by_cases he:fstE (l++m)=0
 ·have h1:=yiL l m
  rw [he] at h1;have hel:fstE l=0:=Classical.byContradiction fun hn=>by rw [if_neg hn] at h1;exact hn h1.symm
  rw [if_pos hel] at h1;obtain⟨D,hD,vD⟩:=fstE_of hel;obtain⟨T,hT,vT⟩:=fstE_of h1.symm;have lD:D.length≤100:=by have:=congrArg List.length hD;rw [List.length_map] at this;omega
  have lT:T.length≤100:=by have:=congrArg List.length hT;rw [List.length_map] at this;omega
  have pD:PtsIn (ptsL D++ptsL T++ptsL (ivsOf dl)) D:=(PtsIn.self D).mono (fun x hx=>List.mem_append_left _ (List.mem_append_left _ hx));have pT:PtsIn (ptsL D++ptsL T++ptsL (ivsOf dl)) T:=(PtsIn.self T).mono (fun x hx=>List.mem_append_left _ (List.mem_append_right _ hx));have n1:Per (ptsL D++ptsL T++ptsL (ivsOf dl)) (ybE D):=ycT 1 pD (PtsIn.nil _);have n2:Per (ptsL D++ptsL T++ptsL (ivsOf dl)) (ybE T):=ycT 1 pT (PtsIn.nil _);have hS:(ptsL D++ptsL T++ptsL (ivsOf dl)).length≤1000:=by rw [List.length_append,List.length_append,ybA,ybA];omega
  have hB:yax 2 T D=yax 2 (ybE D) (ybE T):=comb_ext fun x=>by rw [ygI,ygI,dec2,dec2,Bool.and_comm]
  refine ⟨ptsL D++ptsL T++ptsL (ivsOf dl),ybE D,yax 2 (ybE D) (ybE T),hS,fun x hx=>List.mem_append_right _ hx,n1,ycT 2 n1.pts n2.pts,fun x hx=>?_,fun hn=>absurd he hn,fun _=>⟨D,T,hD,hT,vD,vT,rfl,rfl,?_,?_,hB⟩⟩
  ·rw [ycL,dec2,Bool.and_eq_true] at hx
   exact hx.1
  ·have:=n1.len;omega
  have:=n2.len;omega
 exact ⟨ptsL (ivsOf dl),[],[],by omega,fun x hx=>hx,Per.nil _,Per.nil _,fun x hx=>hx,fun _=>⟨rfl,rfl⟩,fun h=>absurd h he⟩
end
section
open Classical
def RawR.sum (x:RawR):Nat:=x.a2.size+x.a4.size+x.b2.size+x.b4.size
theorem RawR.sum_sz {x:RawR} {k:Nat} (h:x.sum≤k):x.sz k:=by
 unfold RawR.sum at h;unfold RawR.sz;omega
def RawI.ok20 (r:RawI):Prop:=r.f.sum≤20∧r.t.sum≤20
noncomputable def ycE (l:List RawI):Bool:=decide (l.length≤6∧∀ r∈l,r.ok20)
theorem shortL_no {l:List RawI} {k:Nat} (hk:k<l.length) (h:6≤k ∨ ¬ (l[k]).ok20):ycE l=false:=by
 unfold ycE;rw [decide_eq_false_iff_not];rintro ⟨h1,h2⟩;rcases h with h|h
 ·omega
 exact h (h2 _ (List.getElem_mem hk))
theorem ygE {l:List RawI} (h:ycE l=true):∀ r∈l,r.sz 100000:=by
 unfold ycE at h;have h:=(of_decide_eq_true h).2;intro r hr;obtain⟨a,b⟩:=h r hr;exact ⟨RawR.sum_sz (Nat.le_trans a (by decide)),RawR.sum_sz (Nat.le_trans b (by decide))⟩
def RawR.C (x:RawR):Array Value:=x.cells.toArray
theorem two_al1 (w:World) (A B:Obj):((w.alloc A).alloc B).drew.heap[w.heap.size]? = some A :=
 (Keep.drew [] _).heap ((Keep.alloc [] (w.alloc A) B).heap (World.alloc_heap_new w A) (by simp)) (by simp)
theorem two_al2 (w:World) (A B:Obj):((w.alloc A).alloc B).drew.heap[w.heap.size+1]? = some B:=by
 have h:=World.alloc_heap_new (w.alloc A) B;have e:(w.alloc A).heap.size=w.heap.size+1:=by simp
 rw [e] at h;exact (Keep.drew [] _).heap h (by simp)
theorem ycV {n:Int} (h0:0≤n) (h:n≤9000000000000000):IntKind.i64.wrap n=n:=IntWalk.i64_in _ (by omega)
theorem yhr (l:List RawI) (hs:∀ r∈l,r.sz 140737488351232) (w:World) (sv:Value) (hr:RIQ w sv l) (h9:l.length≤9223372036854775807) :
  Calls prog 54 #[sv] w fun e w'=>e = .returned (.bool (ycE l))∧Keep [] w w':=by
 have HR:=jX hr;have HSz:=jX hs;obtain⟨ao,ac,rfl,_⟩:=hr;clear hs;go_enter func54,ntmps54
 go_wp2_with fail;go_loopw [3] (fun c wr=>∃ k:Nat,k≤l.length∧k≤6∧c = .int .i64 (k:Int)∧(∀ r∈l.take k,r.ok20)∧Keep [] w wr) (fun c _=>l.length-(intOf c).toNat)
 case atStart=>exact ⟨0,Nat.zero_le _,Nat.zero_le _,rfl,by simp,Keep.refl _ _⟩
 case round =>
  obtain⟨k,hk,hk6,rfl,hok,hb⟩:=hrel;have HO:=jX hok;have HB:=jX hb;clear hok hb;by_cases hlt:k<l.length
  ·obtain⟨g,o,rfl,hg,hat⟩:=RIQ.elem (HR.out.later HB.out) k hlt
   have HNo:=jX (fun h=>shortL_no hlt h);have Hsz:=jX (HSz.out l[k] (List.getElem_mem hlt));have HNx:=jX (List.take_succ_eq_append_getElem hlt);generalize l[k]=r at *;obtain⟨q,hq⟩:∃ q,o+k*20=q:=⟨_,rfl⟩;rw [hq] at hat;have HC:=jX hat
   obtain⟨w1f,w2f,w3f⟩:IntKind.i64.wrap ((r.f.a2.size:Int)+(r.f.a4.size:Int))=(r.f.a2.size:Int)+(r.f.a4.size:Int)∧IntKind.i64.wrap ((r.f.a2.size:Int)+(r.f.a4.size:Int)+(r.f.b2.size:Int))=(r.f.a2.size:Int)+(r.f.a4.size:Int)+(r.f.b2.size:Int)∧IntKind.i64.wrap ((r.f.a2.size:Int)+(r.f.a4.size:Int)+(r.f.b2.size:Int)+(r.f.b4.size:Int))=(r.f.a2.size:Int)+(r.f.a4.size:Int)+(r.f.b2.size:Int)+(r.f.b4.size:Int):=by
    have:=Hsz.out;unfold RawI.sz RawR.sz at this;exact ⟨ycV (by omega) (by omega),ycV (by omega) (by omega),ycV (by omega) (by omega)⟩
   have hdf:decide ((20:Int)<(r.f.a2.size:Int)+(r.f.a4.size:Int)+(r.f.b2.size:Int)+(r.f.b4.size:Int)) = !decide (r.f.sum≤20):=by
    unfold RawR.sum;rw [Bool.eq_iff_iff,decide_eq_true_iff,Bool.not_eq_true',decide_eq_false_iff_not];omega
   obtain⟨w1t,w2t,w3t⟩:IntKind.i64.wrap ((r.t.a2.size:Int)+(r.t.a4.size:Int))=(r.t.a2.size:Int)+(r.t.a4.size:Int)∧IntKind.i64.wrap ((r.t.a2.size:Int)+(r.t.a4.size:Int)+(r.t.b2.size:Int))=(r.t.a2.size:Int)+(r.t.a4.size:Int)+(r.t.b2.size:Int)∧IntKind.i64.wrap ((r.t.a2.size:Int)+(r.t.a4.size:Int)+(r.t.b2.size:Int)+(r.t.b4.size:Int))=(r.t.a2.size:Int)+(r.t.a4.size:Int)+(r.t.b2.size:Int)+(r.t.b4.size:Int):=by
    have:=Hsz.out;unfold RawI.sz RawR.sz at this;exact ⟨ycV (by omega) (by omega),ycV (by omega) (by omega),ycV (by omega) (by omega)⟩
   have hdt:decide ((20:Int)<(r.t.a2.size:Int)+(r.t.a4.size:Int)+(r.t.b2.size:Int)+(r.t.b4.size:Int)) = !decide (r.t.sum≤20):=by
    unfold RawR.sum;rw [Bool.eq_iff_iff,decide_eq_true_iff,Bool.not_eq_true',decide_eq_false_iff_not];omega
   have hkc:(k:Int)<(l.length:Int):=by omega
   have hk0:(0:Int)≤(k:Int):=by omega
   clear hat;go_upto_region 4 with (fail)
   go_cut [4,5] (fun xv yv wx=>∃ g4 g5:Nat,xv = .pointer (some ⟨g4,0,none⟩)∧yv = .pointer (some ⟨g5,0,none⟩)∧wx.heap[g4]? = some (.cells #[.bool r.f.a1,.string r.f.a2,.bool r.f.a3,.string r.f.a4,.bool r.f.b1,.string r.f.b2,.bool r.f.b3,.string r.f.b4,.bool r.f.n] 36)∧wx.heap[g5]? = some (.cells #[.bool r.t.a1,.string r.t.a2,.bool r.t.a3,.string r.t.a4,.bool r.t.b1,.string r.t.b2,.bool r.t.b3,.string r.t.b4,.bool r.t.n] 36)∧Keep [] wr wx)
   case first =>
    have c0:wr.cell? ⟨g,q,none⟩=some (.bool r.f.a1):=HC.out 0 _ rfl;have c1:wr.cell? ⟨g,q+1,none⟩=some (.string r.f.a2):=HC.out 1 _ rfl;have c2:wr.cell? ⟨g,q+2,none⟩=some (.bool r.f.a3):=HC.out 2 _ rfl;have c3:wr.cell? ⟨g,q+3,none⟩=some (.string r.f.a4):=HC.out 3 _ rfl;have c4:wr.cell? ⟨g,q+4,none⟩=some (.bool r.f.b1):=HC.out 4 _ rfl;have c5:wr.cell? ⟨g,q+5,none⟩=some (.string r.f.b2):=HC.out 5 _ rfl;have c6:wr.cell? ⟨g,q+6,none⟩=some (.bool r.f.b3):=HC.out 6 _ rfl;have c7:wr.cell? ⟨g,q+7,none⟩=some (.string r.f.b4):=HC.out 7 _ rfl;have c8:wr.cell? ⟨g,q+8,none⟩=some (.bool r.f.n):=HC.out 8 _ rfl;have c9:wr.cell? ⟨g,q+9,none⟩=some (.bool r.t.a1):=HC.out 9 _ rfl;have c10:wr.cell? ⟨g,q+10,none⟩=some (.string r.t.a2):=HC.out 10 _ rfl;have c11:wr.cell? ⟨g,q+11,none⟩=some (.bool r.t.a3):=HC.out 11 _ rfl;have c12:wr.cell? ⟨g,q+12,none⟩=some (.string r.t.a4):=HC.out 12 _ rfl;have c13:wr.cell? ⟨g,q+13,none⟩=some (.bool r.t.b1):=HC.out 13 _ rfl;have c14:wr.cell? ⟨g,q+14,none⟩=some (.string r.t.b2):=HC.out 14 _ rfl;have c15:wr.cell? ⟨g,q+15,none⟩=some (.bool r.t.b3):=HC.out 15 _ rfl;have c16:wr.cell? ⟨g,q+16,none⟩=some (.string r.t.b4):=HC.out 16 _ rfl;have c17:wr.cell? ⟨g,q+17,none⟩=some (.bool r.t.n):=HC.out 17 _ rfl;go_region
    ·have hk:Keep [] wr (((wr.alloc (.cells #[.bool r.f.a1,.string r.f.a2,.bool r.f.a3,.string r.f.a4,.bool r.f.b1,.string r.f.b2,.bool r.f.b3,.string r.f.b4,.bool r.f.n] 36)).alloc (.cells #[.bool r.t.a1,.string r.t.a2,.bool r.t.a3,.string r.t.a4,.bool r.t.b1,.string r.t.b2,.bool r.t.b3,.string r.t.b4,.bool r.t.n] 36)).drew):=((Keep.alloc _ _ _).tz (Keep.alloc _ _ _)).tz (Keep.drew _ _)
     go_wp2_with fail;go_meet
     exact ⟨_,_,rfl,rfl,two_al1 _ _ _,two_al2 _ _ _,hk⟩
    have hk:Keep [] wr (((wr.alloc (.cells #[.bool r.t.a1,.string r.t.a2,.bool r.t.a3,.string r.t.a4,.bool r.t.b1,.string r.t.b2,.bool r.t.b3,.string r.t.b4,.bool r.t.n] 36)).alloc (.cells #[.bool r.f.a1,.string r.f.a2,.bool r.f.a3,.string r.f.a4,.bool r.f.b1,.string r.f.b2,.bool r.f.b3,.string r.f.b4,.bool r.f.n] 36)).drew):=((Keep.alloc _ _ _).tz (Keep.alloc _ _ _)).tz (Keep.drew _ _);go_wp2_with fail;go_meet
    exact ⟨_,_,rfl,rfl,two_al2 _ _ _,two_al1 _ _ _,hk⟩
   obtain⟨g4,g5,rfl,rfl,b4,b5,hk5⟩:=hcut;rename World=>w5;have HK5:=jX (HB.out.tz hk5);have d4:=yaa b4;have d5:=yaa b5;clear b4 b5 hk5;go_upto_region 5 with (fail)
   by_cases h6:6≤k
   ·have HE:=jX (HNo.out (.inl h6))
    have hd6:(6:Int)≤(k:Int):=by omega
    refine wp_region_lit ?_;generalize hA:Act.mk _ _=A9;iterate 54 (first|(refine gWE (by subst hA;rfl) ?_;subst hA;refine ⟨?_,?_,fun K hK=>?_⟩;rotate_left;(go_simp;try rfl);go_simp;generalize hA:Act.mk _ _=A9;refine hK _ _ ?_;clear hK K)|(refine gWS (by subst hA;rfl) (fun K hK=>?_);subst hA;go_simp;generalize hA:Act.mk _ _=A9;refine hK _ _ ?_;clear hK K))
    subst hA;go_wp2_with fail;go_ret
    exact ⟨by rw [HE.out];rfl,HK5.out⟩
   have hd6:¬ (6:Int)≤(k:Int):=by omega
   by_cases hf:r.f.sum≤20
   ·rw [decide_eq_true hf,Bool.not_true] at hdf
    by_cases ht:r.t.sum≤20
    ·rw [decide_eq_true ht,Bool.not_true] at hdt
     have HE:Hid (∀ x∈l.take (k+1),x.ok20):=jX (by
      intro x hx;rw [HNx.out] at hx;rcases List.mem_append.1 hx with hx|hx
      ·exact HO.out x hx
      obtain rfl:=List.mem_singleton.1 hx
      exact ⟨hf,ht⟩)
     clear hf ht HNo HNx HO;refine wp_region_lit ?_;generalize hA:Act.mk _ _=A9;iterate 54 (first|(refine gWE (by subst hA;rfl) ?_;subst hA;refine ⟨?_,?_,fun K hK=>?_⟩;rotate_left;(go_simp;try rfl);go_simp;generalize hA:Act.mk _ _=A9;refine hK _ _ ?_;clear hK K)|(refine gWS (by subst hA;rfl) (fun K hK=>?_);subst hA;go_simp;generalize hA:Act.mk _ _=A9;refine hK _ _ ?_;clear hK K))
     subst hA;go_wp2_with fail;go_roundw
     case rel=>exact ⟨k+1,by omega,by omega,congrArg (Value.int .i64) (by omega),HE.out,HK5.out⟩
     case measure=>simp [intOf];omega
    rw [decide_eq_false ht,Bool.not_false] at hdt;have HE:=jX (HNo.out (.inr (fun h=>ht h.2)));clear hf ht HNo HNx HO;refine wp_region_lit ?_;generalize hA:Act.mk _ _=A9;iterate 54 (first|(refine gWE (by subst hA;rfl) ?_;subst hA;refine ⟨?_,?_,fun K hK=>?_⟩;rotate_left;(go_simp;try rfl);go_simp;generalize hA:Act.mk _ _=A9;refine hK _ _ ?_;clear hK K)|(refine gWS (by subst hA;rfl) (fun K hK=>?_);subst hA;go_simp;generalize hA:Act.mk _ _=A9;refine hK _ _ ?_;clear hK K))
    subst hA;go_wp2_with fail;go_ret
    exact ⟨by rw [HE.out];rfl,HK5.out⟩
   rw [decide_eq_false hf,Bool.not_false] at hdf;have HE:=jX (HNo.out (.inr (fun h=>hf h.1)));clear hf HNo HNx HO;refine wp_region_lit ?_;generalize hA:Act.mk _ _=A9;iterate 54 (first|(refine gWE (by subst hA;rfl) ?_;subst hA;refine ⟨?_,?_,fun K hK=>?_⟩;rotate_left;(go_simp;try rfl);go_simp;generalize hA:Act.mk _ _=A9;refine hK _ _ ?_;clear hK K)|(refine gWS (by subst hA;rfl) (fun K hK=>?_);subst hA;go_simp;generalize hA:Act.mk _ _=A9;refine hK _ _ ?_;clear hK K))
   subst hA;go_wp2_with fail;go_ret
   exact ⟨by rw [HE.out];rfl,HK5.out⟩
  obtain rfl:k=l.length:=by omega
  have HE:Hid (ycE l=true):=jX (by
   unfold ycE;rw [decide_eq_true_iff];have h:=HO.out;rw [List.take_length] at h
   exact ⟨hk6,h⟩)
  go_wp2_with fail;go_ret
  exact ⟨by rw [HE.out];rfl,HB.out⟩
end
section
open Classical
theorem movingboolMakes_c (w:World) (v0 v1 v2:Value) (m0:RIArg w v0) (m1:RIArg w v1) (m2:SpArg w v2):Calls prog 13 #[v0,v1,v2] w fun e w'=>e = .returned (.bool true)∧Below w.heap.size w w':=by
 obtain⟨l,hr,hl9,hls⟩:=m0;obtain⟨m,hq,hm9,hms⟩:=m1;obtain⟨dl,hd,hd9⟩:=m2;have HK:=jX (Keep.refl [] w);have H1:=jX (fun u (hk:Keep [] w u)=>yhr l hls u v0 (RIR.riq (hr.later hk)) hl9);have H2:=jX (fun u (hk:Keep [] w u)=>yhr m hms u v1 (RIR.riq (hq.later hk)) hm9);obtain⟨da,dc,rfl,_⟩:=hr.form;obtain⟨ta,tc,rfl,_⟩:=hq.form;by_cases hx:ycE l=true
 ·by_cases hy:ycE m=true
  ·rw [hx] at H1
   rw [hy] at H2;have hl6:l.length≤6:=(of_decide_eq_true hx).1;have hm6:m.length≤6:=(of_decide_eq_true hy).1;have sl:=ygE hx;have sm:=ygE hy;obtain⟨S,A,B,hS,hpS,pA,pB,sub,hA,hB⟩:=yjl (l:=l) (m:=m) (dl:=dl) (by omega) (by omega);have HMk:=jX (fun u (hk:Keep [] w u)=>mmake_p l m (fun r h=>(List.mem_append.1 h).elim (sl r) (sm r)) (by omega) u _ _ (hr.later hk) (hq.later hk) _ A B rfl hA (fun h=>by obtain⟨D,T,a1,a2,a3,a4,a5,a6,a7,a8,_⟩:=hB h;exact ⟨D,T,a1,a2,a3,a4,a5,a6,a7,a8⟩));have HP:=jX (perB hd hd9 hpS);have HF1:=jX (fun u (hb:Below w.heap.size w u)=>yis l sl u _ (RIR.riq (hr.laterB hb)) (by omega));have HF2:=jX (fun u (hb:Below w.heap.size w u)=>yis m sm u _ (RIR.riq (hq.laterB hb)) (by omega))
   have HRm:=jX (fun (h0:fstE (l++m)=0) b u M (hb:Below w.heap.size w b) (hm:MP S b u M)=>by
    obtain⟨D,T,a1,a2,_,_,a5,_,_,_,a9⟩:=hB h0
    exact hm.rmakeR (hr.laterB hb) (hq.laterB hb) a1 a2 a5.symm a9 pA pB (by omega) (by omega))
   have hz:=yiL l m;have PA:=jX pA;have PB:=jX pB;have HSub:=jX sub;have HA:=jX hA;obtain⟨pa,pc,rfl,_⟩:=hd;clear hr hq hls hms hl9 hm9 hx hy sl sm hl6 hm6 pA pB sub hA hB hd9 hpS;generalize fstE (l++m)=z at *;generalize fstE l=x at *;generalize fstE m=y at *;have HZ:=jX hz;clear hz;generalize yhE dl=P at *;go_enter func13,ntmps13
   go_wp2_with fail;refine (ycF _).mono ?_;rintro e w1 ⟨rfl,hk⟩;dsimp only;have HK:=jX (HK.out.tz hk);clear hk;go_wp2_with fail;refine (H1.out _ HK.out).mono ?_;rintro e w2 ⟨rfl,hk⟩;dsimp only;have HK:=jX (HK.out.tz hk);clear hk;go_wp2_with fail;refine (H2.out _ HK.out).mono ?_;rintro e w3 ⟨rfl,hk⟩;dsimp only;have HK:=jX (HK.out.tz hk);clear hk;go_wp2_with fail;refine (HMk.out _ HK.out).mono ?_;rintro e w4 ⟨hb,a1,c1,b1,d1,rfl,hvA,hvB⟩;dsimp only;have HB:=jX (HK.out.bz.trans (Below.mono hb HK.out.size));have HVA:=jX hvA;have HVB:=jX hvB;clear hb hvA hvB HMk H1 H2 HK;go_upto_region 4 with (fail)
   obtain⟨w5,g7,e2,e3,b7,h7,_,hk⟩:=al1 w4 (.cells #[.slice a1 A.length c1,.slice b1 B.length d1] 29);rw [← e2,e3];clear e2 e3;have HM:=jX (((MP.start hS w5).add (Keep.refl _ _) (HVB.out.later hk) PB.out).add (Keep.refl _ _) (HVA.out.later hk) PA.out);have HB:=jX (HB.out.trans (Below.mono hk.bz HB.out.size));have Bg7:=jX b7;clear b7 h7 hk HVA HVB PA PB hS;go_wp2_with fail;refine (HP.out _ _ _ HB.out HM.out).mono ?_;rintro e y1 ⟨p1,q1,rfl,hm⟩;dsimp only;have HM:=jX hm;clear hm;go_wp2_with fail;refine (HM.out.mconst0 (P:=P) (by simp)).mono ?_;rintro e y2 ⟨a2,c2,b2,d2,rfl,hm⟩;dsimp only;have HM:=jX hm;clear hm;go_wp2_with fail;refine (HP.out _ _ _ HB.out HM.out).mono ?_;rintro e y3 ⟨p3,q3,rfl,hm⟩;dsimp only;have HM:=jX hm;clear hm;go_wp2_with fail;refine (HM.out.mconst1 (P:=P) (by simp)).mono ?_;rintro e y4 ⟨a4,c4,b4,d4,rfl,hm⟩;dsimp only;have HM:=jX hm;clear hm;go_wp2_with fail;refine (HP.out _ _ _ HB.out HM.out).mono ?_;rintro e y5 ⟨p5,q5,rfl,hm⟩;dsimp only;have HM:=jX hm;clear hm;go_upto_region 5 with (fail)
   obtain⟨w6,g9,g10,hW,eg9,eg10,Bg9,Bg10,hg9,hg10,_,HkW⟩:=al2h y5 (.cells #[.slice a2 P.length c2,.slice b2 0 d2] 29) (.cells #[.slice a4 P.length c4,.slice b4 P.length d4] 29);rw [← hW];try rw [eg10]
   try rw [eg9]
   clear hW eg9 eg10 hg9 hg10;have HM:=jX (HM.out.move HkW.out);have Bg7:=jX (HM.out.keep.heap Bg7.out (by simp));have HB:=jX (HB.out.trans (Below.mono HM.out.keep.bz HB.out.size));have HM:=jX HM.out.here;clear HkW HP;have pg9:=yaa Bg9.out;have pg10:=yaa Bg10.out;go_wp2_with fail;refine (HM.out.eq (v:=.slice a2 P.length c2) (u:=.slice p5 P.length q5) (a:=P) (b:=P) (by simp) (by simp) rfl).mono ?_;rintro e y6 ⟨rfl,hm⟩;dsimp only;have hk:=hm.keep;have HM:=jX hm;have b9:=jX (hk.heap Bg9.out (by simp));have b10:=jX (hk.heap Bg10.out (by simp));clear hm hk pg9 pg10;have pg9:=yaa b9.out;have pg10:=yaa b10.out;clear b9 b10;go_wp2_with fail;refine (HM.out.eq (v:=.slice a4 P.length c4) (u:=.slice p5 P.length q5) (a:=P) (b:=P) (by simp) (by simp) rfl).mono ?_;rintro e y7 ⟨rfl,hm⟩;dsimp only;have hk:=hm.keep;have HM:=jX hm;have b9:=jX (hk.heap Bg9.out (by simp));have b10:=jX (hk.heap Bg10.out (by simp));clear hm hk pg9 pg10;have pg9:=yaa b9.out;have pg10:=yaa b10.out;clear b9 b10;go_wp2_with fail;refine (HM.out.eq (v:=.slice b4 P.length d4) (u:=.slice p5 P.length q5) (a:=P) (b:=P) (by simp) (by simp) rfl).mono ?_;rintro e y8 ⟨rfl,hm⟩;dsimp only;have HM:=jX hm;clear hm pg9 pg10 Bg9 Bg10;go_wp2_with fail;have HB8:=jX (HB.out.trans (Below.mono HM.out.keep.bz HB.out.size));refine (HF1.out _ HB8.out).mono ?_;rintro e y9 ⟨rfl,hk⟩;dsimp only;have HM:=jX (HM.out.move hk);clear hk HB8 HF1;have hz:=HZ.out;clear HZ;by_cases hx:x=0
   ·subst hx
    rw [if_pos rfl] at hz;subst hz;go_wp2_with fail;have HB8:=jX (HB.out.trans (Below.mono HM.out.keep.bz HB.out.size));refine (HF2.out _ HB8.out).mono ?_;rintro e y10 ⟨rfl,hk⟩;dsimp only;have HM:=jX (HM.out.move hk);have Bg7:=jX (HM.out.keep.heap Bg7.out (by simp));clear hk HB8 HF2;have HF:=jX (HB.out.trans (Below.mono HM.out.keep.bz HB.out.size));by_cases hy:z=0
    ·subst hy
     have HRm:=jX (HRm.out rfl);go_upto_region 12 with (fail)
     refine yaj (S:=fun u=>Below y10.heap.size y10 u) 14 (by kernel_rfl) (by kernel_rfl) (fun _ _ d _ _ h=>by cases d<;>exact h) ?_;have hS0:=(Keep.drew [] y10).bz;have HM:=jX (HM.out.move (Keep.drew [] y10)).here;generalize World.drew y10=u at *;have HFu:=jX (HF.out.trans (Below.mono hS0 HF.out.size));refine' jG (v:=_) 0 hS0 (fun w hw=>?h0_) (fun K hK=>?k0_)
     case h0_=>(go_simp;try rfl)
     go_simp;refine hK _ ?_;clear hK K;refine' jG (v:=_) 1 hS0 (fun w hw=>?h1_) (fun K hK=>?k1_)
     case h1_=>(go_simp;try rfl)
     go_simp;refine hK _ ?_;clear hK K;refine' jG (v:=_) 2 hS0 (fun w hw=>?h2_) (fun K hK=>?k2_)
     case h2_=>(go_simp;try rfl)
     go_simp;refine hK _ ?_;clear hK K;refine' jG (v:=_) 3 hS0 (fun w hw=>?h3_) (fun K hK=>?k3_)
     case h3_=>(have pg7:=yaa ((hw.block g7 (yab Bg7.out)).trans Bg7.out);go_simp;try rfl)
     go_simp;refine hK _ ?_;clear hK K;refine' jG (v:=_) 4 hS0 (fun w hw=>?h4_) (fun K hK=>?k4_)
     case h4_=>(go_simp;try rfl)
     go_simp;refine hK _ ?_;clear hK K;refine' jG (v:=_) 5 hS0 (fun w hw=>?h5_) (fun K hK=>?k5_)
     case h5_=>(go_simp;try rfl)
     go_simp;refine hK _ ?_;clear hK K;refine jP 6 (fun K hK=>?_);refine yae 60 #[.slice da l.length dc,.slice ta m.length tc] (by go_simp) ?_;refine (HRm.out _ _ _ HFu.out HM.out).mono ?_;rintro e z1 ⟨a6,c6,b6,d6,rfl,hm⟩;have hS0:=hS0.trans (Below.mono hm.keep.bz hS0.size);have HM:=jX hm.here;clear hm HFu HRm;refine ⟨_,rfl,?_⟩;go_simp;refine hK _ _ hS0 ?_;clear hK K;refine jP 7 (fun K hK=>?_);refine yae 27 #[.agg #[.slice a1 A.length c1,.slice b1 B.length d1],.agg #[.slice a6 A.length c6,.slice b6 B.length d6]] (by go_simp) ?_;refine (HM.out.reqT (D:=A) (T:=B) (E:=A) (U:=B) (by simp) (by simp) (by simp) (by simp) rfl rfl).mono ?_;rintro e z2 ⟨rfl,hm⟩;have hS0:=hS0.trans (Below.mono hm.keep.bz hS0.size);have HM:=jX hm.here;clear hm;refine ⟨_,rfl,?_⟩;go_simp;refine hK _ _ hS0 ?_;clear hK K;refine' jG (v:=_) 8 hS0 (fun w hw=>?h8_) (fun K hK=>?k8_)
     case h8_=>(go_simp;try rfl)
     go_simp;refine hK _ ?_;clear hK K;refine' jG (v:=_) 9 hS0 (fun w hw=>?h9_) (fun K hK=>?k9_)
     case h9_=>(go_simp;try rfl)
     go_simp;refine hK _ ?_;clear hK K;refine' jG (v:=_) 10 hS0 (fun w hw=>?h10_) (fun K hK=>?k10_)
     case h10_=>(have pg7:=yaa ((hw.block g7 (yab Bg7.out)).trans Bg7.out);go_simp;try rfl)
     go_simp;refine hK _ ?_;clear hK K;refine jP 11 (fun K hK=>?_);refine yae 55 #[.agg #[.slice a1 A.length c1,.slice b1 B.length d1]] (by go_simp) ?_;refine (HM.out.mcheckZ (D:=A) (T:=B) (by simp) (by simp) HSub.out).mono ?_;rintro e z3 ⟨rfl,hb⟩;have hS0:=hS0.trans (Below.mono hb hS0.size);clear hb;refine ⟨_,rfl,?_⟩;go_simp;refine hK _ _ hS0 ?_;clear hK K;refine' jG (v:=_) 12 hS0 (fun w hw=>?h12_) (fun K hK=>?k12_)
     case h12_=>(go_simp;try rfl)
     go_simp;refine hK _ ?_;clear hK K;refine' jG (v:=_) 13 hS0 (fun w hw=>?h13_) (fun K hK=>?k13_)
     case h13_=>(go_simp;try rfl)
     go_simp;refine hK _ ?_;clear hK K;refine ⟨by kernel_rfl,?_⟩;simp only [List.drop_succ_cons,List.drop_zero];have HF:=jX (HF.out.trans (Below.mono hS0 HF.out.size));go_wp2_with fail;go_ret
     exact ⟨rfl,HF.out⟩
    obtain⟨rfl,rfl⟩:=HA.out hy;have hb1:(z != 0)=true:=by rw [bne_iff_ne];exact hy
    have pg7:=yaa Bg7.out;go_wp2_with fail;go_ret
    exact ⟨by simp,HF.out⟩
   rw [if_neg hx] at hz;subst hz;obtain⟨rfl,rfl⟩:=HA.out hx;have hb1:(z != 0)=true:=by rw [bne_iff_ne];exact hx
   have hb2:(z == 0)=false:=by rw [beq_eq_false_iff_ne];exact hx
   have Bg7:=jX (HM.out.keep.heap Bg7.out (by simp));have HF:=jX (HB.out.trans (Below.mono HM.out.keep.bz HB.out.size));have pg7:=yaa Bg7.out;go_wp2_with fail;go_ret
   exact ⟨by simp,HF.out⟩
  have hy:ycE m=false:=by simpa using hy
  rw [hx] at H1;rw [hy] at H2;obtain⟨pa,pc,rfl,_⟩:=hd;clear hr hq hls hms hl9 hm9 hx hy hd9;go_enter func13,ntmps13
  go_wp2_with fail;refine (ycF _).mono ?_;rintro e w1 ⟨rfl,hk⟩;dsimp only;have HK:=jX (HK.out.tz hk);clear hk;go_wp2_with fail;refine (H1.out _ HK.out).mono ?_;rintro e w2 ⟨rfl,hk⟩;dsimp only;have HK:=jX (HK.out.tz hk);clear hk;go_wp2_with fail;refine (H2.out _ HK.out).mono ?_;rintro e w3 ⟨rfl,hk⟩;dsimp only;have HK:=jX (HK.out.tz hk);clear hk;go_wp2_with fail;refine (ycF _).mono ?_;rintro e w4 ⟨rfl,hk⟩;dsimp only;have HK:=jX (HK.out.tz hk);clear hk;go_wp2_with fail;go_ret
  exact ⟨rfl,HK.out.bz⟩
 have hx:ycE l=false:=by simpa using hx
 rw [hx] at H1;obtain⟨pa,pc,rfl,_⟩:=hd;clear hr hq hls hms hl9 hm9 hx hd9;go_enter func13,ntmps13
 go_wp2_with fail;refine (ycF _).mono ?_;rintro e w1 ⟨rfl,hk⟩;dsimp only;have HK:=jX (HK.out.tz hk);clear hk;go_wp2_with fail;refine (H1.out _ HK.out).mono ?_;rintro e w2 ⟨rfl,hk⟩;dsimp only;have HK:=jX (HK.out.tz hk);clear hk;go_wp2_with fail;refine (ycF _).mono ?_;rintro e w3 ⟨rfl,hk⟩;dsimp only;have HK:=jX (HK.out.tz hk);clear hk;go_wp2_with fail;go_ret
 exact ⟨rfl,HK.out.bz⟩
end
end Go.Proofs.YtejegogbhpmgfaaGreatDoor
