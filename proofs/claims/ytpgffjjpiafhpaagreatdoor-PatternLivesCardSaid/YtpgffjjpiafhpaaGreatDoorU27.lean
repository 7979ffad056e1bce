/- Parts of a proof: Fj Fk Fl Vk Fm Fn. -/
import Derived.Laws.AppendOwnNone
import Derived.Deep.DeepCutAuto
import Derived.Deep.Cut
import Derived.Deep.CutRange
import Derived.IntWalk
import Derived.Test.YtpgffjjpiafhpaaGreatDoorU26
import Derived.Test.YtpgffjjpiafhpaaGreatDoorU15
import Derived.Test.YtpgffjjpiafhpaaGreatDoorU21
import Derived.Test.YtpgffjjpiafhpaaGreatDoorU08
import Derived.Test.YtpgffjjpiafhpaaGreatDoorU03
import Derived.Test.YtpgffjjpiafhpaaGreatDoorU05
import Derived.Test.YtpgffjjpiafhpaaGreatDoorU04
import Derived.Test.YtpgffjjpiafhpaaGreatDoorU09
import Derived.Test.YtpgffjjpiafhpaaGreatDoorU12
import Derived.Test.YtpgffjjpiafhpaaGreatDoorU18
import Derived.Test.YtpgffjjpiafhpaaGreatDoorU02
set_option linter.unusedVariables false
set_option linter.unusedSimpArgs false
set_option maxRecDepth 100000
set_option maxHeartbeats 8000000
namespace Go.Proofs.YtpgffjjpiafhpaaGreatDoor
open Go.RowKit Tryz
section
open Classical
theorem rsweepT_c (l:List (Iv K)) (a b:Rat) (k0:Nat) (hk0:k0≤70000) (hsm:∀ s∈l,SmI k0 s) (hl:∀ i∈l,i.f<i.l) (ha:FitQ 24 a) (hb:FitQ 24 b) (hab:a≤b) (w:World) (sv:Value) (hr:IvR w sv l) (h9:l.length≤10000) :
  Calls prog 61 #[sv,.agg (rC a),.agg (rC b)] w fun e w'=>∃ v,e = .returned v∧IvR w' v (swpK a b l)∧Below w.heap.size w w'∧TyI w' v:=by
 have HR:=jX hr;have HS1:=jX (fun (x:K) (hx:Sm k0 x)=>ycC hx (by omega) ha);have HS2:=jX (fun (x:K) (hx:Sm k0 x)=>ycC hx (by omega) hb);have HSm:=jX hsm;have HN:=jX (fun u sv (h:IvR u sv (swpL a b l))=>ydV _ (yiK hk0 ha hb hab hl hsm) u sv h (by unfold swpL;rw [List.length_map];exact h9));obtain⟨ao,ac,rfl,_⟩:=hr.form;clear hr ha hb hsm hl hab;unfold swpK;unfold swpL at HN ⊢;go_enter func61,ntmps61
 go_upto_region 1 with (fail)
 obtain⟨W,ga,gb,hW,ega,egb,Bga,Bgb,hga,hgb,hgW,HkW⟩:=al2h w (.cells (rC a) 28) (.cells (rC b) 28);rw [← hW];try rw [egb]
 try rw [ega]
 clear hW ega egb;go_wp2_with fail;go_loopw [7,8] (fun ov c wr=>∃ k:Nat,k≤l.length∧c = .int .i64 (k:Int)∧OBI W wr ov ((l.take k).map (swpI a b))) (fun _ c _=>l.length-(intOf c).toNat)
 case atStart=>exact ⟨0,Nat.zero_le _,rfl,OB.nil W⟩
 case round =>
  obtain⟨k,hk,rfl,hov⟩:=hrel;obtain⟨out,hout⟩:∃ out,(l.take k).map (swpI a b)=out:=⟨_,rfl⟩;rw [hout] at hov;have Hlen:=jX (show out.length≤k by rw [← hout,List.length_map,List.length_take];omega)
  have Hout:=jX hout;have HO:=jX hov;obtain⟨oo,oc,rfl⟩:=hov.form;clear hov hout;by_cases hlt:k<l.length
  ·have Hstep:=jX (ydC (swpI a b) l k hlt)
   obtain⟨g,o,rfl,hg,hat⟩:=IvR.elem (HR.out.laterB (HkW.out.bz.trans (Below.mono HO.out.keep HkW.out.size))) k hlt;have hs:=HSm.out l[k] (List.getElem_mem hlt);generalize l[k]=s at *;obtain⟨p,hp⟩:∃ p,o+k*20=p:=⟨_,rfl⟩;rw [hp] at hat;have HL:=jX (yaJ wr g p s hat);clear hat;have hkc:(k:Int)<(l.length:Int):=by omega
   go_upto_region 5 with (fail)
   refine wp_region_lit ?_;refine wV ?_;go_simp;refine wV ?_;go_simp;refine wV ?_;go_simp;refine wX (v:=iv s) ⟨g,p,none⟩ (HL.out) ?_;go_simp;refine wA (ygi _ _ _ rfl) (fun w1 gt e2 bgt hgt _ hk1=>?_);go_simp;refine wR gt (iC s) bgt (by exact ybL s) (by rfl) (ybP s) (fun w2 b4 k4=>?_);go_simp;clear HL;refine fO ?_;have Bgt:=jX b4;have HW2:=jX (show Keep [] wr w2 from hk1.trans k4 (by simp;omega))
   have hgtw:wr.heap.size≤gt:=by omega
   clear b4 k4 hk1 bgt;have HXf:=jX ((yao Bgt.out).ldf (yaa Bgt.out));have HXt:=jX ((yao Bgt.out).ldt (yaa Bgt.out));rw [show kv s.f.pt = .agg (kC s.f.pt) from rfl] at HXf
   rw [show kv s.l.pt = .agg (kC s.l.pt) from rfl] at HXt
   have HCs:Hid ((iC s).size=20):=rfl;have Bxa:=jX (((HO.out.keep.trans (Below.mono HW2.out.bz HO.out.keep.size)).block ga (yaa Bga.out)).trans Bga.out);have Bxb:=jX (((HO.out.keep.trans (Below.mono HW2.out.bz HO.out.keep.size)).block gb (yaa Bgb.out)).trans Bgb.out);have HXa:=jX (kw_q Bxa.out);have HXb:=jX (kw_q Bxb.out);rw [yam] at HXa HXb;have H1:=jX (HS1.out s.f.pt hs.1);have H2:=jX (HS2.out s.l.pt hs.2);have F1:=jX (ybg (mvK a s.f.pt));have F2:=jX (ybg (mvK b s.l.pt));have HPut:Hid (ybv (ybv (iC s) 0 (kC (mvK a s.f.pt)).toList) 9 (kC (mvK b s.l.pt)).toList=iC (swpI a b s)):=put_iv s (swpI a b s) rfl rfl;clear hs;obtain⟨t,ht⟩:∃ t,swpI a b s=t:=⟨_,rfl⟩;rw [ht] at Hstep HPut;clear ht;generalize kC (mvK a s.f.pt)=M1 at *;generalize kC (mvK b s.l.pt)=M2 at *;generalize kC s.f.pt=F at *;generalize kC s.l.pt=L at *;generalize iC s=C0 at *;have Q1:Hid (∀ m:KW w2,Calls prog 54 #[.agg F,.agg (rC a)] (Wk w2 m) fun e w'=>e = .returned (.agg M1)∧∃ m,w'=Wk w2 m):=fun m=>qk m (H1.out _);have Q2:Hid (∀ m:KW w2,Calls prog 54 #[.agg L,.agg (rC b)] (Wk w2 m) fun e w'=>e = .returned (.agg M2)∧∃ m,w'=Wk w2 m):=fun m=>qk m (H2.out _);go_upto_region 6 with (fail)
   refine yah 9 (by kernel_rfl) (by kernel_rfl) ?_;simp only [List.take_succ_cons,List.take_zero,List.drop_succ_cons,List.drop_zero]
   repeat (first
    | go_big_quiet_skip
    | (go_big_quiet_want;first
     | (refine yaj _ _ _ (.agg F) rfl rfl (by rintro _ ⟨m,rfl⟩;exact HXf.out m) ?_;go_simp;go_big_quiet_on)|(refine yaj _ _ _ (.agg L) rfl rfl (by rintro _ ⟨m,rfl⟩;exact HXt.out m) ?_;go_simp;go_big_quiet_on)|(refine yaj _ _ _ (.agg (rC a)) rfl rfl (by rintro _ ⟨m,rfl⟩;exact HXa.out m) ?_;go_simp;go_big_quiet_on)|(refine yaj _ _ _ (.agg (rC b)) rfl rfl (by rintro _ ⟨m,rfl⟩;exact HXb.out m) ?_;go_simp;go_big_quiet_on)
     | (go_big_quiet_op;first|go_big_quiet_on|go_big_quiet_call (first
      | (go_at_call 54;with_reducible exact (Q1).out _)|(go_at_call 54;with_reducible exact (Q2).out _)))))
   refine wpQuiet_nil ?_;rintro w3 ⟨⟨_,hk_w3⟩,rfl⟩;have Bg3:=jX (hk_w3.heap Bgt.out (by simp));have HW3:=jX (HW2.out.tz hk_w3);clear hk_w3 HXf HXt HXa HXb H1 H2 Q1 Q2 Bgt Bxa Bxb;refine yaN (by rfl) _ _ _ rfl gt 0 M1 rfl rfl (ybb Bg3.out _ _ (by rw [HCs.out,F1.out.2.1];decide)) (by rw [F1.out.2.1];exact k_size) F1.out.2.2 (fun K hK=>?_);obtain⟨b4,k4⟩:=yaw M1.toList 0 C0 w3 Bg3.out;generalize World.setCells w3 gt 0 M1.toList=w4 at *;go_simp;go_step
   refine wV ?_;go_simp;refine yaN (by rfl) _ _ _ rfl gt 9 M2 rfl rfl (ybb b4 _ _ (by rw [putAt_size,HCs.out,F2.out.2.1];decide)) (by rw [F2.out.2.1];exact k_size) F2.out.2.2 (fun K hK=>?_);obtain⟨b5,k5⟩:=yaw M2.toList 9 _ w4 b4;generalize World.setCells w4 gt 9 M2.toList=w5 at *;go_simp;go_step
   rw [HPut.out] at b5;have HO5:=jX (HO.out.later (show Keep [] wr w5 from (HW3.out.trans k4 (by simp;omega)).trans k5 (by simp;omega)).bz)
   have HLt:=jX (yaJ w5 gt 0 t (yao b5));clear b4 b5 k4 k5 HW3 HW2 Bg3 HO;go_upto_region 7 with (fail)
   refine wp_region_lit ?_;refine wV ?_;go_simp;refine wX (v:=iv t) ⟨gt,0,none⟩ (HLt.out) ?_;go_simp;refine fO ?_;obtain⟨ub,e6,v4,u4,hr4,ho4⟩:=OBI.app t HO5.out (by have:=Hlen.out;omega);refine yar (v:=.slice (some ⟨w5.heap.size,0,none⟩) 1 1) (by rfl) (yaV 22 1 #[(0,.tmp 31)] #[(0,iv t)] _ rfl (by simp only [List.map_toArray,List.map_cons,List.map_nil];rfl) (ybl t _)) (fun K hK=>?_);rw [e6];clear e6;go_simp;go_step
   refine yar (by rfl) (ybj (.tmp 30) (.tmp 32) 22 _ _ _ rfl rfl rfl hr4) (fun K hK=>?_);go_simp;go_step
   clear hr4;have HN4:=jX ho4;obtain⟨no,nc,rfl⟩:=ho4.form;clear ho4;go_wp2_with fail;go_roundw
   case rel=>exact ⟨k+1,by omega,congrArg (Value.int .i64) (by omega),by rw [Hstep.out,Hout.out];exact HN4.out⟩
   case measure=>simp [intOf];omega
  obtain rfl:k=l.length:=by omega
  rw [List.take_length] at Hout
  have HX:Hid (IvR wr (.slice oo out.length oc) (l.map (swpI a b))):=by
   have:=HO.out.read;rw [← Hout.out] at this ⊢;exact this
  have HB:=jX (HkW.out.bz.trans (Below.mono HO.out.keep HkW.out.size));have HN1:=jX (HN.out wr _ HX.out);clear HO HN HX;go_wp2_with fail;refine HN1.out.mono ?_;rintro e w6 ⟨v,rfl,hv,hk6,ht6⟩;dsimp only;have HV:=jX hv;have HT6:=jX ht6;clear ht6;have HB6:=jX (HB.out.trans (Below.mono hk6.bz HB.out.size));obtain⟨vo,vc,rfl,_⟩:=hv.form;clear hv hk6 HN1;go_wp2_with fail;go_ret
  exact ⟨_,rfl,HV.out,HB6.out,HT6.out⟩
end
section
open Classical
structure StV where
 a:Option Addr
 c:Nat
 s:St
def StV.v (x:StV):Value:=.slice x.a x.s.d.length x.c
def StV.cells (x:StV):List Value:=[x.v,.bool (sgB x.s.g.num),.string (mgS x.s.g.num),.bool false,.string (dnS x.s.g.den),.bool (sgB x.s.a.num),.string (mgS x.s.a.num),.bool false,.string (dnS x.s.a.den),.bool (sgB x.s.b.num),.string (mgS x.s.b.num),.bool false,.string (dnS x.s.b.den)]
def StV.C (x:StV):Array Value:=x.cells.toArray
theorem StV.len (x:StV):x.cells.length=13:=rfl
theorem StV.one (x:StV):∀ v∈x.cells,v.oneCell'=true:=by
 intro v hv;simp only [StV.cells,List.mem_cons,List.not_mem_nil,or_false] at hv;rcases hv with rfl|rfl|rfl|rfl|rfl|rfl|rfl|rfl|rfl|rfl|rfl|rfl|rfl<;>rfl
theorem StV.ones (x:StV):x.C.all (·.oneCell')=true:=all_oneCell_toArray x.one
def StR (w:World) (sv:Value) (l:List StV):Prop:=RowE StV.cells w sv l∧Ls w (l.map fun x=>(x.v,x.s.d))
def stS (l:List StV):List St:=l.map (·.s)
theorem StR.grow {w w':World} {sv:Value} {l:List StV} (h:StR w sv l) (hb:Below w.heap.size w w'):StR w' sv l:=⟨h.1.laterB hb,h.2.grow hb⟩
theorem StR.form {w:World} {sv:Value} {l:List StV} (h:StR w sv l):∃ a c,sv = .slice a l.length c:=by
 obtain⟨a,c,h,_⟩:=h.1.form;exact ⟨a,c,h⟩
theorem StR.ls {w:World} {sv:Value} {l:List StV} (h:StR w sv l) {x:StV} (hx:x∈l):Ls w [(x.v,x.s.d)]:=h.2.sub fun p hp=>by
 rw [List.mem_singleton] at hp;subst hp;exact List.mem_map.2 ⟨x,hx,rfl⟩
def StAt (w:World) (b o:Nat) (x:StV):Prop:=∀ k v,x.cells[k]? = some v→w.cell? ⟨b,o+k,none⟩=some v
theorem StR.elem {w:World} {a:Option Addr} {n c:Nat} {l:List StV} (h:StR w (.slice a n c) l) (i:Nat) (hi:i<l.length):∃ g o,a=some ⟨g,o,none⟩∧g<w.heap.size∧StAt w g (o+i*13) l[i]:=h.1.elem StV.len i hi
theorem infoSt:∃ ie,prog.info? 65=some ie∧ie.size=13:=by
 have h:(prog.info? 65).map (·.size)=some 13:=by kernel_rfl
 cases hi:prog.info? 65 with
 | none=>rw [hi] at h;cases h
 | some ie=>rw [hi] at h;exact ⟨ie,rfl,by simpa using h⟩
theorem ygf (x:StV):(prog.info? 65).map (·.size)=some x.C.size:=by
 obtain⟨ie,hie,hs⟩:=infoSt;rw [hie];show some ie.size=_
 rw [hs];rfl
theorem yeS (w:World) (b o:Nat) (x:StV) (h:StAt w b o x):(loadVar 65 ⟨b,o,none⟩).run prog w = .ok (.agg x.C) w:=by
 obtain⟨ie,hie,hs⟩:=infoSt;exact Go.Lib.rl_loadVar_cells 65 ie hie isAgg65 b o x.cells (by rw [hs];rfl) w h
theorem ybC {w:World} {g:Nat} {x:StV} {t:TypeId} (h:w.heap[g]? = some (.cells x.C t)):StAt w g 0 x:=fun k v hk=>by
 rw [Nat.zero_add,yab h];exact (List.getElem?_toArray ..).trans hk
theorem StAt.keep {w w':World} {b o:Nat} {x:StV} (h:StAt w b o x) (hb:w'.heap[b]? = w.heap[b]?):StAt w' b o x:=fun k v hk=>(World.cell?_of_block hb).trans (h k v hk)
theorem ydT {w:World} {b o:Nat} {q:Rat} (h:∀ k v,(rcells q)[k]? = some v→w.cell? ⟨b,o+k,none⟩=some v):(loadVar 28 ⟨b,o,none⟩).run prog w = .ok (.agg (rC q)) w:=by
 obtain⟨ie,hie,hs⟩:=infoRat;exact Go.Lib.rl_loadVar_cells 28 ie hie isAgg28 b o (rcells q) (by rw [hs];rfl) w h
section
variable {w:World} {b o:Nat} {x:StV} (h:StAt w b o x)
include h
theorem StAt.d0:w.cell? ⟨b,o,none⟩=some x.v:=h 0 _ rfl
theorem StAt.lg:(loadVar 28 ⟨b,o+1,none⟩).run prog w = .ok (.agg (rC x.s.g)) w:=ydT fun k v hk=>by
 have:=h (1+k) v (by
  have hk4:k<4:=(List.getElem?_eq_some_iff.1 hk).1
  match k,hk4 with
  | 0,_=>exact hk
  | 1,_=>exact hk
  | 2,_=>exact hk
  | 3,_=>exact hk)
 rwa [← Nat.add_assoc] at this
theorem StAt.la:(loadVar 28 ⟨b,o+5,none⟩).run prog w = .ok (.agg (rC x.s.a)) w:=ydT fun k v hk=>by
 have:=h (5+k) v (by
  have hk4:k<4:=(List.getElem?_eq_some_iff.1 hk).1
  match k,hk4 with
  | 0,_=>exact hk
  | 1,_=>exact hk
  | 2,_=>exact hk
  | 3,_=>exact hk)
 rwa [← Nat.add_assoc] at this
theorem StAt.lb:(loadVar 28 ⟨b,o+9,none⟩).run prog w = .ok (.agg (rC x.s.b)) w:=ydT fun k v hk=>by
 have:=h (9+k) v (by
  have hk4:k<4:=(List.getElem?_eq_some_iff.1 hk).1
  match k,hk4 with
  | 0,_=>exact hk
  | 1,_=>exact hk
  | 2,_=>exact hk
  | 3,_=>exact hk)
 rwa [← Nat.add_assoc] at this
end
theorem al_st (ev:Operand→Value) (w:World) (o:Oper) (ho:o.op = .alloc 65):(execOp ev o).run prog w = .ok (.value (.pointer (some ⟨w.heap.size,0,none⟩))) (w.alloc (.cells #[.slice none 0 0,.bool false,.string ⟨#[]⟩,.bool false,.string ⟨#[]⟩,.bool false,.string ⟨#[]⟩,.bool false,.string ⟨#[]⟩,.bool false,.string ⟨#[]⟩,.bool false,.string ⟨#[]⟩] 65)):=by
 unfold execOp;simp only [ho];go_simp
structure Good (l:List St):Prop where
 ok:StsOk l
 le:l.length≤16
 pos:∀ s∈l,0≤s.g∧s.a≤s.b
 first:∀ h:0<l.length,l[0].a=0∧l[0].b=0
theorem qchk_r (q:Rat) (h:FitQ 1000 q) (w:World):Calls prog 103 #[.agg (rC q)] w fun e w'=>e = .returned (.int .i64 0)∧Keep [] w w':=by
 have:=qchk_c (sgB q.num) (mgS q.num) false (dnS q.den) (Nat.le_trans h.1 (by decide)) (by
  unfold dnS;split
  ·exact Nat.zero_le _
  have:=h.2;unfold Fit mgS at this
  exact Nat.le_trans this (by decide)) w
 rwa [show chkQ (sgB q.num) (mgS q.num) false (dnS q.den)=true from ycT.2 ⟨q,rfl,rfl,rfl,rfl⟩] at this
end
section
open Classical
theorem neqQ0 (w:World):(binOp .neq 28 (.agg #[.bool false,.string ⟨#[]⟩,.bool false,.string ⟨#[]⟩]) (.agg #[.bool false,.string ⟨#[]⟩,.bool false,.string ⟨#[]⟩])).run prog w = .ok (.bool false) w:=by
 rw [run_neq_struct,show (10000:Nat)=9997+3 from rfl,ygD];rfl
theorem sgn_nn {q:Rat} (h:0≤q):decide (sgn q<0)=false:=by
 rw [decide_eq_false_iff_not];rcases yaX q with ⟨h1,h2⟩|⟨h1,h2⟩|⟨h1,h2⟩<;>rw [h2]<;>first|grind|decide
theorem zero_cells:(sgB (0:Rat).num=false)∧(mgS (0:Rat).num=⟨#[]⟩)∧(dnS (0:Rat).den=⟨#[]⟩):=⟨by decide,yba.2 rfl,by unfold dnS;rfl⟩
theorem q_size:(prog.info? 28).map (·.size)=some 4:=by
 obtain⟨ie,hie,hs⟩:=infoRat;rw [hie];exact congrArg some hs
theorem pchk_c (l:List StV) (hg:Good (stS l)) (h1:0<l.length) (w:World) (sv:Value) (hr:StR w sv l) :
  Calls prog 71 #[sv] w fun e w'=>e = .returned (.int .i64 0)∧Below w.heap.size w w':=by
 have HR:=jX hr;have HG:=jX hg;have h16:l.length≤16:=by have:=hg.le;unfold stS at this;rwa [List.length_map] at this
 obtain⟨ao,ac,rfl⟩:=hr.form;clear hr hg;have hne:(((l.length:Nat):Int) == 0)=false:=by rw [beq_eq_false_iff_ne];omega
 have hgt:¬ ((16:Int)<((l.length:Nat):Int)):=by omega
 go_enter func71,ntmps71
 go_upto_region 5 with (fail)
 refine wp_region_lit ?_;refine wV ?_;go_simp;refine wA (ycb _ _ _ rfl) (fun w1 gz e2 bgz hgz _ hk1=>?_);go_simp;refine ybm (by rfl) _ _ _ rfl gz #[.bool false,.string ⟨#[]⟩,.bool false,.string ⟨#[]⟩] rfl rfl _ _ bgz (by exact q_size) (by rfl) (by kernel_rfl) (fun K hK=>?_);obtain⟨w2,e4,b4,k4⟩:=yaL (cs:=#[.bool false,.string ⟨#[]⟩,.bool false,.string ⟨#[]⟩]) bgz;rw [e4];go_simp;go_step
 clear e4;have HB0:=jX (Keep.bz (show Keep [] w w2 from hk1.trans k4 (by simp;omega)))
 have Bz0:=jX b4;clear b4 k4 hk1 bgz;go_wp2_with fail;go_loopw [18] (fun c wr=>∃ k:Nat,k≤l.length∧c = .int .i64 (k:Int)∧Below w.heap.size w wr∧wr.heap[gz]? = some (.cells #[.bool false,.string ⟨#[]⟩,.bool false,.string ⟨#[]⟩] 28)) (fun c _=>l.length-(intOf c).toNat)
 case atStart=>exact ⟨0,Nat.zero_le _,rfl,HB0.out,Bz0.out⟩
 case round =>
  obtain⟨k,hk,rfl,hb,hz⟩:=hrel;have HB:=jX hb;have Bgz:=jX hz;clear hb hz;by_cases hlt:k<l.length
  ·obtain⟨g,o,rfl,hg,hat⟩:=StR.elem (HR.out.grow HB.out) k hlt
   have hx:l[k]∈l:=List.getElem_mem hlt;have hxs:l[k].s∈stS l:=List.mem_map_of_mem hx;have hok:=HG.out.ok _ hxs;have hpos:=HG.out.pos _ hxs
   have h0:k=0→l[k].s.a=0∧l[k].s.b=0:=fun h=>by
    subst h;have:=HG.out.first (by unfold stS;rw [List.length_map];exact h1);unfold stS at this;rwa [List.getElem_map] at this
   have HChk:=jX (fun (u:World) (hu:Below w.heap.size w u)=>Ls.chk ((HR.out.grow hu).ls hx) (List.mem_singleton.2 rfl));generalize l[k]=x at *;obtain⟨p,hp⟩:∃ p,o+k*13=p:=⟨_,rfl⟩;rw [hp] at hat;have HL:=jX (yeS wr g p x hat);clear hat hx hxs;have hkc:(k:Int)<(l.length:Int):=by omega
   have HQ1:Hid (∀ u,Calls prog 103 #[.agg #[.bool (sgB x.s.g.num),.string (mgS x.s.g.num),.bool false,.string (dnS x.s.g.den)]] u fun e w'=>e = .returned (.int .i64 0)∧Keep [] u w'):=jX (qchk_r x.s.g (hok.2.2.1.mono (by decide)));have HQ2:Hid (∀ u,Calls prog 103 #[.agg #[.bool (sgB x.s.a.num),.string (mgS x.s.a.num),.bool false,.string (dnS x.s.a.den)]] u fun e w'=>e = .returned (.int .i64 0)∧Keep [] u w'):=jX (qchk_r x.s.a (hok.2.2.2.1.mono (by decide)));have HQ3:Hid (∀ u,Calls prog 103 #[.agg #[.bool (sgB x.s.b.num),.string (mgS x.s.b.num),.bool false,.string (dnS x.s.b.den)]] u fun e w'=>e = .returned (.int .i64 0)∧Keep [] u w'):=jX (qchk_r x.s.b (hok.2.2.2.2.mono (by decide)));have HS:=jX (QSign_c x.s.g);have HC:=jX (QCompare_c x.s.b x.s.a (hok.2.2.2.2.mono (by decide)) (hok.2.2.2.1.mono (by decide)));have hd1:=sgn_nn hpos.1;have hd2:decide (sgn (x.s.b-x.s.a)<0)=false:=sgn_nn (by have:=hpos.2;grind);generalize sgn x.s.g=m1 at *;generalize sgn (x.s.b-x.s.a)=m2 at *;go_upto_region 8 with (fail)
   refine wp_region_lit ?_;refine wV ?_;go_simp;refine wV ?_;go_simp;refine wX (v:=.agg x.C) ⟨g,p,none⟩ (HL.out) ?_;go_simp;refine wA (al_st _ _ _ rfl) (fun w3 gs e2 bgs hgs _ hk1=>?_);go_simp;refine wV ?_;go_simp;refine wR gs x.C bgs (by exact ygf x) (by rfl) x.ones (fun w4 b4 k4=>?_);go_simp;clear HL;refine fO ?_;have HW4:=jX (show Keep [] wr w4 from hk1.trans k4 (by simp;omega))
   have HB:=jX (HB.out.trans (Below.mono HW4.out.bz HB.out.size));have Bgz:=jX (HW4.out.heap Bgz.out (by simp));have HCh:=jX (HChk.out w4 HB.out);clear HW4 k4 hk1 bgs HChk;have hC:x.C = #[x.v,.bool (sgB x.s.g.num),.string (mgS x.s.g.num),.bool false,.string (dnS x.s.g.den),.bool (sgB x.s.a.num),.string (mgS x.s.a.num),.bool false,.string (dnS x.s.a.den),.bool (sgB x.s.b.num),.string (mgS x.s.b.num),.bool false,.string (dnS x.s.b.den)]:=rfl;have Bgs:=jX b4;clear b4;rw [hC] at Bgs ⊢;have hxv:x.v = .slice x.a x.s.d.length x.c:=rfl;rw [hxv] at HCh Bgs ⊢
   have hq0:k=0→sgB x.s.a.num=false∧mgS x.s.a.num=⟨#[]⟩∧dnS x.s.a.den=⟨#[]⟩∧sgB x.s.b.num=false∧mgS x.s.b.num=⟨#[]⟩∧dnS x.s.b.den=⟨#[]⟩:=fun h=>by
    rw [(h0 h).1,(h0 h).2];exact ⟨zero_cells.1,zero_cells.2.1,zero_cells.2.2,zero_cells.1,zero_cells.2.1,zero_cells.2.2⟩
   have Hq0:=jX hq0;clear hC hxv hok hpos h0 hq0;unfold rv at HS HC;generalize sgB (x.s.g).num=n1 at *;generalize mgS (x.s.g).num=s1 at *;generalize dnS (x.s.g).den=d1 at *;generalize sgB (x.s.a).num=n2 at *;generalize mgS (x.s.a).num=s2 at *;generalize dnS (x.s.a).den=d2 at *;generalize sgB (x.s.b).num=n3 at *;generalize mgS (x.s.b).num=s3 at *;generalize dnS (x.s.b).den=d3 at *;generalize x.a=xa at *;generalize x.c=xc at *;generalize x.s.d.length=xn at *;clear x;obtain⟨pgs,fgs,lgs⟩:=jQ Bgs;go_wp2_with fail;refine HCh.out.mono ?_;rintro e w5 ⟨rfl,hb5⟩;dsimp only;have HB:=jX (HB.out.trans (Below.mono hb5 HB.out.size));have Bgz:=jX ((hb5.block gz (yaa Bgz.out)).trans Bgz.out);have Bgs:=jX ((hb5.block gs (yaa Bgs.out)).trans Bgs.out);clear hb5 pgs fgs lgs HCh;obtain⟨pgs,fgs,lgs⟩:=jQ Bgs;obtain⟨pgz,fgz,lgz⟩:=jQ Bgz;go_wp2_with fail;refine (HQ1.out _).mono ?_;rintro e w6 ⟨rfl,hk⟩;dsimp only;have HB:=jX (HB.out.trans (Below.mono hk.bz HB.out.size));have Bgz:=jX (hk.heap Bgz.out (by simp));have Bgs:=jX (hk.heap Bgs.out (by simp));clear hk pgs fgs lgs pgz fgz lgz;obtain⟨pgs,fgs,lgs⟩:=jQ Bgs;obtain⟨pgz,fgz,lgz⟩:=jQ Bgz;go_wp2_with fail;refine (HQ2.out _).mono ?_;rintro e w7 ⟨rfl,hk⟩;dsimp only;have HB:=jX (HB.out.trans (Below.mono hk.bz HB.out.size));have Bgz:=jX (hk.heap Bgz.out (by simp));have Bgs:=jX (hk.heap Bgs.out (by simp));clear hk pgs fgs lgs pgz fgz lgz;obtain⟨pgs,fgs,lgs⟩:=jQ Bgs;obtain⟨pgz,fgz,lgz⟩:=jQ Bgz;go_wp2_with fail;refine (HQ3.out _).mono ?_;rintro e w8 ⟨rfl,hk⟩;dsimp only;have HB:=jX (HB.out.trans (Below.mono hk.bz HB.out.size));have Bgz:=jX (hk.heap Bgz.out (by simp));have Bgs:=jX (hk.heap Bgs.out (by simp));clear hk pgs fgs lgs pgz fgz lgz;obtain⟨pgs,fgs,lgs⟩:=jQ Bgs;obtain⟨pgz,fgz,lgz⟩:=jQ Bgz;go_wp2_with fail;refine (HS.out _).mono ?_;rintro e w9 ⟨rfl,hk⟩;dsimp only;have HB:=jX (HB.out.trans (Below.mono hk.bz HB.out.size));have Bgz:=jX (hk.heap Bgz.out (by simp));have Bgs:=jX (hk.heap Bgs.out (by simp));clear hk pgs fgs lgs pgz fgz lgz;obtain⟨pgs,fgs,lgs⟩:=jQ Bgs;obtain⟨pgz,fgz,lgz⟩:=jQ Bgz;go_wp2_with fail;have HNq:=neqQ0;by_cases hk0:k=0
   ·obtain⟨rfl,rfl,rfl,rfl,rfl,rfl⟩:=Hq0.out hk0
    subst hk0;refine (HC.out _).mono ?_;rintro e w10 ⟨rfl,hk⟩;dsimp only;have HB:=jX (HB.out.trans (Below.mono hk.bz HB.out.size));have Bgz:=jX (hk.heap Bgz.out (by simp));have Bgs:=jX (hk.heap Bgs.out (by simp));clear hk pgs fgs lgs pgz fgz lgz;obtain⟨pgs,fgs,lgs⟩:=jQ Bgs;obtain⟨pgz,fgz,lgz⟩:=jQ Bgz;go_wp2_with fail;go_roundw
    case rel=>exact ⟨0+1,by omega,congrArg (Value.int .i64) (by omega),HB.out,Bgz.out⟩
    case measure=>simp [intOf];omega
   have hk1:((k:Int) == 0)=false:=by rw [beq_eq_false_iff_ne];omega
   refine (HC.out _).mono ?_;rintro e w10 ⟨rfl,hk⟩;dsimp only;have HB:=jX (HB.out.trans (Below.mono hk.bz HB.out.size));have Bgz:=jX (hk.heap Bgz.out (by simp));have Bgs:=jX (hk.heap Bgs.out (by simp));clear hk pgs fgs lgs pgz fgz lgz;obtain⟨pgs,fgs,lgs⟩:=jQ Bgs;obtain⟨pgz,fgz,lgz⟩:=jQ Bgz;go_wp2_with fail;go_roundw
   case rel=>exact ⟨k+1,by omega,congrArg (Value.int .i64) (by omega),HB.out,Bgz.out⟩
   case measure=>simp [intOf];omega
  go_wp2_with fail;go_ret
  exact ⟨rfl,HB.out⟩
end
theorem IvR.laterBox {u u':World} {v:Value} {l:List (Iv K)} {g:Nat} {cs:Array Value} {t:TypeId} (h:IvR u v l) (hb:u.heap[g]? = some (.cells cs t)) (hs:cs.size<20) (hk:Keep [g] u u'):IvR u' v l:=by
 rcases h with h|⟨g',o,c,rfl,hc,hg,hx⟩
 ·exact .inl h
 refine .inr ⟨g',o,c,rfl,hc,Nat.lt_of_lt_of_le hg hk.size,fun i v hv=>?_⟩;by_cases hgg:g'=g
 ·subst hgg
  exfalso;cases l with
  | nil=>simp at hv
  | cons x r =>
   have:=hx 19 (.bool (!x.l.beh)) (by rw [List.flatMap_cons,List.getElem?_append_left (by rw [yco];decide)];rfl);rw [yab hb] at this;have:=(Array.getElem?_eq_some_iff.1 this).1;omega
 rw [World.cell?_of_block (hk.block g' hg (by simp;exact hgg))];exact hx i v hv
section
open Classical
structure OutB (w:World) (g:Nat) (vs:List (Value × List (Iv K))):Prop where
 blk:w.heap[g]? = some (.cells (vs.map (·.1)).toArray 22)
 ls:Ls w vs
theorem OutB.grow {w w':World} {g:Nat} {vs:List (Value × List (Iv K))} (h:OutB w g vs) (hb:Below w.heap.size w w'):OutB w' g vs:=⟨(hb.block g (yaa h.blk)).trans h.blk,h.ls.grow hb⟩
theorem OutB.cell {w:World} {g:Nat} {vs:List (Value × List (Iv K))} (h:OutB w g vs) (i:Nat) (hi:i<vs.length) :
  ∃ a c,w.cell? ⟨g,i,none⟩=some (.slice a vs[i].2.length c)∧Ls w [(.slice a vs[i].2.length c,vs[i].2)]:=by
 have hm:vs[i]∈vs:=List.getElem_mem hi;obtain⟨a,c,e,_⟩:=(h.ls _ hm).1.form;refine ⟨a,c,?_,fun p hp=>?_⟩
 ·rw [yab h.blk,← e]
  simp [hi]
 rw [List.mem_singleton] at hp;subst hp;have:=h.ls _ hm;rw [e] at this;exact this
theorem Ls.laterBox {w w':World} {L:List (Value × List (Iv K))} (h:Ls w L) {g:Nat} {cs:Array Value} {t:TypeId} (hb:w.heap[g]? = some (.cells cs t)) (hs:cs.size<20) (hk:Keep [g] w w'):Ls w' L :=
 fun p hp=>⟨(h p hp).1.laterBox hb hs hk,(h p hp).2⟩
theorem ybz {w:World} {g i:Nat} {v:Value} {cs:Array Value} {t:TypeId} (h:w.heap[g]? = some (.cells cs t (0,0))) (hi:i<cs.size) :
  ∃ W,w.setCell ⟨g,i,none⟩ v=W∧W.heap[g]? = some (.cells (cs.setIfInBounds i v) t (0,0))∧Keep [g] w W:=by
 have:=yaw [v] i cs w h;exact ⟨_,rfl,this.1,this.2⟩
theorem OutB.set {w:World} {g:Nat} {vs:List (Value × List (Iv K))} (h:OutB w g vs) (hl:vs.length<20) (i:Nat) (hi:i<vs.length) {v:Value} {l:List (Iv K)} (hv:Ls w [(v,l)]) :
  ∃ W,w.setCell ⟨g,i,none⟩ v=W∧OutB W g (vs.set i (v,l))∧Keep [g] w W:=by
 have hs:(vs.map (·.1)).toArray.size<20:=by simp;exact hl
 obtain⟨W,e,hb,hk⟩:=ybz (v:=v) h.blk (i:=i) (by simp;exact hi);refine ⟨W,e,⟨?_,fun p hp=>?_⟩,hk⟩
 ·rw [hb]
  simp [List.map_set]
 rcases List.mem_or_eq_of_mem_set hp with hp|rfl
 ·exact h.ls.laterBox h.blk hs hk p hp
 exact hv.laterBox h.blk hs hk _ (List.mem_singleton.2 rfl)
theorem infoL:(prog.info? 22).map (fun i=>(i.zero,i.size,i.bytes))=some (some (.slice none 0 0),1,24):=by kernel_rfl
theorem makeL (w:World) (n:Nat) (hn:n≤16):(Instr.makeSlice 67 (.int .i64 (n:Int)) (.int .i64 (n:Int))).run prog w = .ok (.slice (some ⟨w.heap.size,0,none⟩) n n) (w.alloc (.cells ((List.replicate n ((.slice none 0 0:Value),([]:List (Iv K)))).map (·.1)).toArray 22)):=by
 obtain⟨i,hi,hz,hs,hb⟩:=ycz infoL;have hm:=run_make (P:=prog) w 67 22 i _ underlying67 hi hz .i64 .i64 (n:Int) (n:Int) (by omega) (by omega) (by rw [hb];omega) (by omega);rw [Int.toNat_natCast,hs,Nat.mul_one] at hm;rw [hm];congr 3
 unfold madeCells;apply Array.ext
 ·simp
 intro j h1 h2;simp [Value.cells,Nat.mod_one]
theorem OutB.start (w:World) (n:Nat):∃ W g,w.alloc (.cells ((List.replicate n ((.slice none 0 0:Value),([]:List (Iv K)))).map (·.1)).toArray 22)=W∧w.heap.size=g∧OutB W g (List.replicate n (.slice none 0 0,[]))∧Keep [] w W:=by
 obtain⟨W,g,e1,e2,b,_,_,hk⟩:=al1 w (.cells ((List.replicate n ((.slice none 0 0:Value),([]:List (Iv K)))).map (·.1)).toArray 22);refine ⟨W,g,e1.symm,e2,⟨b,fun p hp=>?_⟩,hk⟩;obtain rfl:=List.eq_of_mem_replicate hp;exact ⟨RowE.nil _,trivial,by simp⟩
end
section
open Classical
theorem Ls.erode {w:World} {v:Value} {l:List (Iv K)} (h:Ls w [(v,l)]) {q:Rat} {k0:Nat} (hk0:k0≤80000) (hs:∀ s∈l,SmI k0 s) (hq:FitQ 24 q) (h9:(eroK q l).length≤10000) :
  Calls prog 53 #[v,.agg (rC q)] w fun e w'=>∃ a c,e = .returned (.slice a (eroK q l).length c)∧Below w.heap.size w w'∧Ls w' [(.slice a (eroK q l).length c,eroK q l)]:=by
 have h0:=h _ (List.mem_singleton.2 rfl);refine (Erode_c l q k0 hk0 hs hq w v h0.1 h0.2.2).mono ?_;rintro e w' ⟨v',rfl,hv,hb⟩;obtain⟨a,c,rfl,_⟩:=hv.form;exact ⟨a,c,rfl,hb,(Ls.nil _).cons hv (yau _ _ _) h9⟩
theorem Ls.sweep {w:World} {v:Value} {l:List (Iv K)} (h:Ls w [(v,l)]) {a b:Rat} {k0:Nat} (hk0:k0≤70000) (hs:∀ s∈l,SmI k0 s) (ha:FitQ 24 a) (hb:FitQ 24 b) (hab:a≤b) (h9:(swpK a b l).length≤10000) :
  Calls prog 59 #[v,.agg (rC a),.agg (rC b)] w fun e w'=>∃ x c,e = .returned (.slice x (swpK a b l).length c)∧Below w.heap.size w w'∧Ls w' [(.slice x (swpK a b l).length c,swpK a b l)]:=by
 have h0:=h _ (List.mem_singleton.2 rfl);refine (Sweep_c l a b k0 hk0 hs h0.2.1.val ha hb hab w v h0.1 h0.2.2).mono ?_;rintro e w' ⟨v',rfl,hv,hb⟩;obtain⟨x,c,rfl,_⟩:=hv.form;exact ⟨x,c,rfl,hb,(Ls.nil _).cons hv (yau _ _ _) h9⟩
theorem Ls.one {w:World} {v u:Value} {a b:List (Iv K)} (h:Ls w [(v,a)]) (k:Ls w [(u,b)]):Ls w [(v,a),(u,b)]:=fun p hp=>by
 rcases List.mem_cons.1 hp with rfl|hp
 ·exact h _ (List.mem_singleton.2 rfl)
 exact k p hp
theorem Ls.hd {w:World} {p:Value × List (Iv K)} {L:List (Value × List (Iv K))} (h:Ls w (p :: L)):Ls w [p]:=h.sub fun q hq=>by
 rw [List.mem_singleton] at hq;subst hq;exact List.mem_cons_self ..
theorem exec_mk {P:Program} {o:Oper} {ev:Operand→Value} {w w':World} (t:TypeId) (x y:Operand) (vx vy v:Value) (ho:o.op = .makeSlice t x y) (hx:ev x=vx) (hy:ev y=vy) (h:(Instr.makeSlice t vx vy).run P w = .ok v w'):(execOp ev o).run P w = .ok (.value v) w':=by
 unfold execOp;simp only [ho,hx,hy,Sem.run_bind,Sem.run_pure,Result.andThen_ok,h]
def LivP (w:World) (n:Nat) (F:Nat→List (Iv K)) (e:Ending) (w':World):Prop :=
 ∃ g vs,e = .returned (.tuple #[.slice (some ⟨g,0,none⟩) n n,.int .i64 0])∧Below w.heap.size w w'∧w.heap.size≤g∧OutB w' g vs∧vs.length=n∧∀ i (h:i<vs.length),vs[i].2=F i
theorem ybZ {l:List StV} {k:Nat} (h:k<l.length):sAt (stS l) k=l[k].s:=by
 unfold sAt stS;rw [List.getD_eq_getElem?_getD,List.getElem?_map,List.getElem?_eq_getElem h];rfl
theorem le10 {n:Nat} {l:List (Iv K)} (h:Few n l) (hl:Norm l) (hn:2*n≤10000):l.length≤10000:=Nat.le_trans (h.len hl) hn
theorem ygX (l:List StV) (hg:Good (stS l)) (h1:0<l.length) (h4:l.length≤4) (w:World) (sv:Value) (hr:StR w sv l) :
  Calls prog 41 #[sv] w (LivP w l.length (rchS (sAt (stS l)))):=by
 have HR:=jX hr;have HG:=jX hg;have HP:=jX (pchk_c l hg h1 w sv hr);have HE:=jX (rfl:LivP w l.length (rchS (sAt (stS l)))=LivP w l.length (rchS (sAt (stS l))));obtain⟨ao,ac,rfl⟩:=hr.form;clear hr hg;go_enter func41,ntmps41
 go_wp2_with fail;refine HP.out.mono ?_;rintro e w1 ⟨rfl,hb1⟩;dsimp only;have HB1:=jX hb1;clear hb1 HP HE;go_upto_region 4 with (fail)
 refine wp_region_lit ?_;refine wV ?_;go_simp;refine wV ?_;go_simp;refine yar (w':=_) (v:=_) (by rfl) (exec_mk 67 (.tmp 15) (.tmp 15) _ _ _ rfl rfl rfl (makeL w1 l.length (by omega))) (fun K hK=>?_);obtain⟨w2,g0,e1,e2,ho,hk2⟩:=OutB.start w1 l.length;rw [e1,e2];have hg0:w.heap.size≤g0:=by have:=HB1.out.size;omega
 have HB2:=jX (HB1.out.trans (Below.mono hk2.bz HB1.out.size));have HO2:=jX ho;clear e1 e2 ho hk2 HB1;go_simp;go_step
 go_wp2_with fail;go_loopw [19] (fun c wr=>∃ (k:Nat) (vs:List (Value × List (Iv K))),k≤l.length∧c = .int .i64 (k:Int)∧Below w.heap.size w wr∧OutB wr g0 vs∧vs.length=l.length∧∀ i (h:i<vs.length),i<k→vs[i].2=rchS (sAt (stS l)) i) (fun c _=>l.length-(intOf c).toNat)
 case atStart=>exact ⟨0,_,Nat.zero_le _,rfl,HB2.out,HO2.out,List.length_replicate ..,fun i h h0=>absurd h0 (by omega)⟩
 case round =>
  obtain⟨k,vs,hk,rfl,hb,ho,hn,hF⟩:=hrel;have HB:=jX hb;have HO:=jX ho;have HF:=jX hF;clear hb ho hF;by_cases hlt:k<l.length
  ·obtain⟨g,o,rfl,hg,hat⟩:=StR.elem (HR.out.grow HB.out) k hlt
   have hx:l[k]∈l:=List.getElem_mem hlt;have hsk:=ybZ hlt;have HSt:=jX (StsOk.at _ HG.out.ok)
   have HE:Hid (∀ u,Below w.heap.size w u→Calls prog 53 #[l[k].v,.agg (rC l[k].s.g)] u fun e w'=>∃ a c,e = .returned (.slice a (eroK l[k].s.g l[k].s.d).length c)∧Below u.heap.size u w'∧Ls w' [(.slice a (eroK l[k].s.g l[k].s.d).length c,eroK l[k].s.g l[k].s.d)]):=fun u hu=>by
    refine Ls.erode ((HR.out.grow hu).ls hx) (k0:=28) (by omega) ?_ ?_ (le10 (n:=32) ?_ (yau _ _ _) (by omega))
    ·rw [← hsk];exact HSt.out.sm k
    ·rw [← hsk];exact ybI (HSt.out.g k)
    rw [← hsk];exact (HSt.out.few k).ero
   have HSab:=jX ((HG.out.pos _ (List.mem_map_of_mem hx)).2)
   have HEk:Hid (k=0→eroK l[k].s.g l[k].s.d=rchS (sAt (stS l)) k):=fun h=>by
    subst h;rw [← hsk];rfl
   have hkc:(k:Int)<(l.length:Int):=by omega
   generalize l[k]=x at *;obtain⟨p,hp⟩:∃ p,o+k*13=p:=⟨_,rfl⟩;rw [hp] at hat;have HL:=jX (yeS wr g p x hat);clear hat hx;go_upto_region 7 with (fail)
   refine wp_region_lit ?_;refine wV ?_;go_simp;refine wV ?_;go_simp;refine wX (v:=.agg x.C) ⟨g,p,none⟩ (HL.out) ?_;go_simp;refine wA (al_st _ _ _ rfl) (fun w3 gs e2 bgs hgs _ hk1=>?_);go_simp;refine wV ?_;go_simp;refine wR gs x.C bgs (by exact ygf x) (by rfl) x.ones (fun w4 b4 k4=>?_);go_simp;clear HL;refine fO ?_;have HW4:=jX (show Keep [] wr w4 from hk1.trans k4 (by simp;omega))
   have HB4:=jX (HB.out.trans (Below.mono HW4.out.bz HB.out.size));have HO4:=jX (HO.out.grow HW4.out.bz);have Bgs:=jX b4;have hwb:wr.heap.size≤gs:=by omega
   have H1:=jX (HE.out w4 HB4.out);have lg0:=yaa HO.out.blk;clear HW4 k4 hk1 bgs b4 HB HO HE;have pd:w4.cell? ⟨gs,0,none⟩=some (.slice x.a x.s.d.length x.c):=(ybC Bgs.out).d0;have hxv:x.v = .slice x.a x.s.d.length x.c:=rfl;rw [hxv] at H1;have HLg:=jX ((ybC Bgs.out).lg);go_upto_region 8 with (fail)
   refine wp_region_lit ?_;refine wV ?_;go_simp;refine wV ?_;go_simp;refine wV ?_;go_simp;refine wV ?_;go_simp;refine wV ?_;go_simp;refine wX (v:=.agg (rC x.s.g)) ⟨gs,0+1,none⟩ (HLg.out) ?_;go_simp;refine wpList_plain (by rfl) (fun K hK=>?_);refine yaf 53 #[.slice x.a x.s.d.length x.c,.agg (rC x.s.g)] (by go_simp) ?_;refine H1.out.mono ?_;rintro e w5 ⟨a1,c1,rfl,hb5,hls⟩;refine ⟨_,rfl,?_⟩;go_simp;go_step
   clear pd H1 HLg;have HB5:=jX (HB4.out.trans (Below.mono hb5 HB4.out.size));have HO5:=jX (HO4.out.grow hb5);have Bgs:=jX ((hb5.block gs (yaa Bgs.out)).trans Bgs.out);have HL1:=jX hls;clear hb5 hls HB4 HO4;obtain⟨W6,eW,ho6,hk6⟩:=HO5.out.set (by omega) k (by omega) HL1.out;obtain⟨a0,c0,q0,_⟩:=HO5.out.cell k (by omega);have f0:=yai HO5.out.blk;have l0:=yaa HO5.out.blk;go_upto_region 9 with (fail)
   clear q0 f0 l0 eW;have HB6:=jX (HB5.out.trans (hk6.below (by simp;omega) HB5.out.size));have Bgs6:=jX (hk6.heap Bgs.out (by simp;omega));have HO6:=jX ho6;have HR6:=jX (HR.out.grow HB6.out);clear hk6 ho6 HB5 HO5 Bgs HL1;by_cases hk0:k=0
   ·go_wp2_with fail
    go_roundw
    case rel =>
     refine ⟨k+1,_,by omega,congrArg (Value.int .i64) (by omega),HB6.out,HO6.out,by rw [List.length_set];exact hn,fun i hi hi1=>?_⟩;have hi0:i=k:=by omega
     subst hi0;rw [List.getElem_set_self];exact HEk.out hk0
    case measure=>simp [intOf];omega
   obtain⟨j,hj⟩:∃ j,k=j+1:=⟨k-1,by omega⟩;have hjl:j<l.length:=by omega
   have hsub:IntKind.i64.wrap ((k:Int)-1)=(j:Int):=by rw [show (k:Int)-1=(j:Int) by omega];exact IntWalk.i64_in _ (by omega)
   have hj1:(j:Int)<(l.length:Int):=by omega
   have hj0:(0:Int)≤(j:Int):=by omega
   have Hj:=jX hj;have hjk:j<k:=by omega
   have hj3:j≤2:=by omega
   clear hj;obtain⟨a2,c2,q2,hl2⟩:=HO6.out.cell j (by rw [List.length_set];omega);rw [show (vs.set k (.slice a1 (eroK x.s.g x.s.d).length c1,eroK x.s.g x.s.d))[j]'(by rw [List.length_set];omega)=vs[j]'(by omega) from List.getElem_set_ne (by omega) _] at q2 hl2
   rw [HF.out j (by omega) (by omega)] at q2 hl2;obtain⟨g',o',hge,hg6,hatj⟩:=StR.elem HR6.out j hjl;obtain⟨rfl,rfl⟩:g'=g∧o'=o:=by injection hge with hge;injection hge with h1 h2;exact ⟨h1.symm,h2.symm⟩
   obtain⟨pj,hpj⟩:∃ pj,o'+j*13=pj:=⟨_,rfl⟩;rw [hpj] at hatj;have hsj:=ybZ hjl;have HSm:=jX (rch_sm HSt.out j (by omega));have HFw:=jX (rch_few HSt.out.few j (by omega));have hgj:FitQ 24 l[j].s.g:=by rw [← hsj];exact ybI (HSt.out.g j)
   have hxa:FitQ 24 x.s.a∧FitQ 24 x.s.b:=by rw [← hsk];exact ⟨ybI (HSt.out.a k),ybI (HSt.out.b k)⟩
   have hxab:x.s.a≤x.s.b:=HSab.out;have HSh:=jX (fun u (h:Ls u [(.slice a2 (rchS (sAt (stS l)) j).length c2,rchS (sAt (stS l)) j)])=>h.shift (List.mem_singleton.2 rfl) (k:=53+50*j) (by omega) HSm.out hgj)
   have HSmM:∀ i∈(rchS (sAt (stS l)) j).map (mvI l[j].s.g),SmI (78+50*j) i:=fun i hi=>by
    obtain⟨i',hi',rfl⟩:=List.mem_map.1 hi;exact (mvI_sm (HSm.out i' hi') (by omega) hgj).mono (by omega)
   have HFs:=(HFw.out.mv (q:=l[j].s.g)).swp (a:=x.s.a) (b:=x.s.b)
   have hpow:64*2 ^ j-32≤224:=by
    have:j=0∨j=1∨j=2:=by omega
    rcases this with rfl|rfl|rfl<;>decide
   have hls:(swpK x.s.a x.s.b ((rchS (sAt (stS l)) j).map (mvI l[j].s.g))).length≤10000:=le10 HFs (yau _ _ _) (by omega);have HSw:=jX (fun u a3 c3 (h:Ls u [(.slice a3 ((rchS (sAt (stS l)) j).map (mvI l[j].s.g)).length c3,(rchS (sAt (stS l)) j).map (mvI l[j].s.g))])=>h.sweep (k0:=78+50*j) (by omega) HSmM hxa.1 hxa.2 hxab hls)
   have hfin:combK 2 (eroK x.s.g x.s.d) (swpK x.s.a x.s.b ((rchS (sAt (stS l)) j).map (mvI l[j].s.g)))=rchS (sAt (stS l)) k:=by
    rw [Hj.out] at hsk ⊢;show _=combK 2 _ _
    rw [hsk,hsj]
   have HFe:Few 32 (eroK x.s.g x.s.d):=by rw [← hsk];exact (HSt.out.few k).ero
   have hli:(combK 2 (eroK x.s.g x.s.d) (swpK x.s.a x.s.b ((rchS (sAt (stS l)) j).map (mvI l[j].s.g)))).length≤10000:=le10 (HFe.comb HFs) (yau _ _ _) (by omega);have HIn:=jX (fun u a4 c4 (h:Ls u [(.slice a1 (eroK x.s.g x.s.d).length c1,eroK x.s.g x.s.d),(.slice a4 (swpK x.s.a x.s.b ((rchS (sAt (stS l)) j).map (mvI l[j].s.g))).length c4,swpK x.s.a x.s.b ((rchS (sAt (stS l)) j).map (mvI l[j].s.g)))])=>h.inter (List.mem_cons_self ..) (List.mem_cons_of_mem _ (List.mem_cons_self ..)) hli)
   have qk:W6.cell? ⟨g0,k,none⟩=some (.slice a1 (eroK x.s.g x.s.d).length c1):=by
    rw [yab HO6.out.blk];simp [show k<vs.length by omega]
   have hl1:Ls W6 [(.slice a1 (eroK x.s.g x.s.d).length c1,eroK x.s.g x.s.d)]:=HO6.out.ls.sub fun p hp=>by
    rw [List.mem_singleton] at hp;subst hp;exact List.mem_set (by omega) _
   have Hl1:=jX hl1;have Hl2:=jX hl2;have Hfin:=jX hfin;clear HSm HFw hgj hxa hxab HSmM HFs hpow hls hfin HFe hli hl1 hl2 HSab;obtain⟨y,hy⟩:∃ y,l[j]=y:=⟨_,rfl⟩;rw [hy] at hatj HSh HSw HIn Hfin;have Hatj:=jX hatj;clear hatj hy hsj;generalize rchS (sAt (stS l)) j=R at *;generalize eroK x.s.g x.s.d=E at *;generalize swpK x.s.a x.s.b (R.map (mvI y.s.g))=SW at *;obtain⟨M,hM⟩:∃ M,R.map (mvI y.s.g)=M:=⟨_,rfl⟩;rw [hM] at HSh HSw;clear hM;obtain⟨IN,hIN⟩:∃ I,combK 2 E SW=I:=⟨_,rfl⟩;rw [hIN] at HIn Hfin;clear hIN;go_upto_region 10 with (fail)
   refine yae (S:=fun u=>Below W6.heap.size W6 u) 12 (by kernel_rfl) (by kernel_rfl) (fun _ _ d _ _ h=>by cases d<;>exact h) ?_;have hS0:=(Keep.drew [] W6).bz;generalize World.drew W6=u at *;refine tV 0 hS0 ?_;go_simp;refine tV 1 hS0 ?_;go_simp;refine tV 2 hS0 ?_;go_simp;refine tV 3 hS0 ?_;go_simp;refine' jG (v:=_) 4 hS0 (fun w hw=>?hsh4) (fun K hK=>?ksh4)
   case hsh4=>(have q3:=(World.cell?_of_block (hw.block g0 (yaa HO6.out.blk))).trans q2;go_simp;try rfl)
   go_simp;go_step
   refine tV 5 hS0 ?_;go_simp;refine tV 6 hS0 ?_;go_simp;refine tV 7 hS0 ?_;go_simp;refine tV 8 hS0 ?_;go_simp;refine tV 9 hS0 ?_;go_simp;refine jG (v:=.agg (rC y.s.g)) 10 hS0 (fun w hw=>yan _ _ ⟨g',pj+1,none⟩ _ rfl rfl ((Hatj.out.keep (hw.block g' hg6)).lg)) (fun K hK=>?_);go_simp;go_step
   refine jP 11 (fun K hK=>?_);refine yaf 39 #[.slice a2 R.length c2,.agg (rC y.s.g)] (by go_simp) ?_;refine (HSh.out _ (Hl2.out.grow hS0)).mono ?_;rintro e u1 ⟨a3,c3,rfl,hb,hl3⟩;have hS0:=hS0.trans (Below.mono hb hS0.size);refine ⟨_,rfl,?_⟩;go_simp;refine hK _ _ hS0 ?_;clear hK K;refine ⟨by kernel_rfl,?_⟩;simp only [List.drop_succ_cons,List.drop_zero];have HB7:=jX (HB6.out.trans (Below.mono hS0 HB6.out.size));have HO7:=jX (HO6.out.grow hS0);have Bgs7:=jX ((hS0.block gs (yaa Bgs6.out)).trans Bgs6.out);have q7:=jX ((World.cell?_of_block (hS0.block g0 (yaa HO6.out.blk))).trans qk);have Hl17:=jX (Hl1.out.grow hS0);have Hl3:=jX hl3.hd;clear hS0 hb hl3 HO6 HB6 Bgs6 qk q2 Hl1 Hl2 HSh Hatj;go_upto_region 11 with (fail)
   refine yae (S:=fun u=>Below u1.heap.size u1 u) 13 (by kernel_rfl) (by kernel_rfl) (fun _ _ d _ _ h=>by cases d<;>exact h) ?_;have hS0:=(Keep.drew [] u1).bz;generalize World.drew u1=u2 at *;refine tV 0 hS0 ?_;go_simp;refine tV 1 hS0 ?_;go_simp;refine tV 2 hS0 ?_;go_simp;refine tV 3 hS0 ?_;go_simp;refine tV 4 hS0 ?_;go_simp;refine' jG (v:=_) 5 hS0 (fun w hw=>?hsw5) (fun K hK=>?ksw5)
   case hsw5=>(have q8:=(World.cell?_of_block (hw.block g0 (yaa HO7.out.blk))).trans q7.out;go_simp;try rfl)
   go_simp;go_step
   refine tV 6 hS0 ?_;go_simp;refine tV 7 hS0 ?_;go_simp;refine jG (v:=.agg (rC x.s.a)) 8 hS0 (fun w hw=>yan _ _ ⟨gs,0+5,none⟩ _ rfl rfl (ybC ((hw.block gs (yaa Bgs7.out)).trans Bgs7.out)).la) (fun K hK=>?_);go_simp;go_step
   refine tV 9 hS0 ?_;go_simp;refine jG (v:=.agg (rC x.s.b)) 10 hS0 (fun w hw=>yan _ _ ⟨gs,0+9,none⟩ _ rfl rfl (ybC ((hw.block gs (yaa Bgs7.out)).trans Bgs7.out)).lb) (fun K hK=>?_);go_simp;go_step
   refine jP 11 (fun K hK=>?_);refine yaf 59 #[.slice a3 M.length c3,.agg (rC x.s.a),.agg (rC x.s.b)] (by go_simp) ?_;refine (HSw.out _ a3 c3 (Hl3.out.grow hS0)).mono ?_;rintro e u3 ⟨a4,c4,rfl,hb,hl4⟩;have hS0:=hS0.trans (Below.mono hb hS0.size);refine ⟨_,rfl,?_⟩;go_simp;refine hK _ _ hS0 ?_;clear hK K;refine jP 12 (fun K hK=>?_);refine yaf 108 #[.slice a1 E.length c1,.slice a4 SW.length c4] (by go_simp) ?_;refine (HIn.out _ a4 c4 ((Hl17.out.grow hS0).one hl4)).mono ?_;rintro e u4 ⟨a5,c5,rfl,hb,hl5⟩;have hS0:=hS0.trans (Below.mono hb hS0.size);refine ⟨_,rfl,?_⟩;go_simp;refine hK _ _ hS0 ?_;clear hK K;refine ⟨by kernel_rfl,?_⟩;simp only [List.drop_succ_cons,List.drop_zero];have HB8:=jX (HB7.out.trans (Below.mono hS0 HB7.out.size));have HO8:=jX (HO7.out.grow hS0);have Hl5:=jX hl5.hd;clear hS0 hb hl5 hl4 HO7 HB7 Bgs7 q7 Hl17 Hl3 HSw HIn;obtain⟨W9,eW,ho9,hk9⟩:=HO8.out.set (by rw [List.length_set];omega) k (by rw [List.length_set];omega) Hl5.out;obtain⟨b0,d0,q0,_⟩:=HO8.out.cell k (by rw [List.length_set];omega);have f0:=yai HO8.out.blk;have l0:=yaa HO8.out.blk;have HB9:=jX (HB8.out.trans (hk9.below (by simp;omega) HB8.out.size));have HO9:=jX ho9;clear hk9 ho9 HB8 HO8;go_wp2_with fail;go_roundw
   case rel =>
    refine ⟨k+1,_,by omega,congrArg (Value.int .i64) (by omega),HB9.out,HO9.out,by rw [List.length_set,List.length_set];exact hn,fun i hi hi1=>?_⟩;by_cases hik:i=k
    ·subst hik
     rw [List.getElem_set_self];exact Hfin.out
    rw [List.getElem_set_ne (by omega),List.getElem_set_ne (by omega)];exact HF.out i (by rw [List.length_set,List.length_set] at hi;exact hi) (by omega)
   case measure=>simp [intOf];omega
  have hkn:k=l.length:=by omega
  subst hkn;go_wp2_with fail;go_ret2
  exact ⟨g0,vs,rfl,HB.out,hg0,HO.out,hn,fun i hi=>HF.out i hi (by omega)⟩
end
end Go.Proofs.YtpgffjjpiafhpaaGreatDoor
