/- Parts of a proof about this translation: Te, St, Su, Sv. -/
import Derived.Test.YtejegogbhpmgfaaGreatDoorC30
import Derived.Test.YtejegogbhpmgfaaGreatDoorC24
import Derived.Test.YtejegogbhpmgfaaGreatDoorC29
set_option linter.unusedVariables false
set_option linter.unusedSimpArgs false
set_option maxRecDepth 100000
set_option maxHeartbeats 8000000
namespace Go.Proofs.YtejegogbhpmgfaaGreatDoor
open Go.RowKit
section
open Classical
def ptsL (l:List (Iv K)):List K:=l.flatMap fun i=>[i.f.pt,i.l.pt]
theorem ptsL_take {l:List (Iv K)} {k:Nat} (h:k<l.length):ptsL (l.take (k+1))=ptsL (l.take k)++[l[k].f.pt,l[k].l.pt]:=by
 unfold ptsL
 rw [List.take_succ_eq_append_getElem h,List.flatMap_append]
 simp
theorem ptsL_len (l:List (Iv K)):(ptsL l).length=2*l.length:=by
 unfold ptsL
 induction l with
 | nil=>rfl
 | cons i l ih=>rw [List.flatMap_cons,List.length_append,ih];simp;omega
theorem ends_c (l:List (Iv K)) (w:World) (sv:Value) (hr:IvR w sv l) (h9:l.length≤50000) :
  Calls Tryz.prog 79 #[sv] w fun e w'=>∃ v,e = .returned v∧KR w' v (sortS (ptsL l))∧Keep [] w w':=by
 have HR:=jX hr
 obtain⟨ao,ac,rfl,_⟩:=hr.form
 clear hr
 go_enter Tryz.func79,Tryz.ntmps79
 go_wp2_with fail
 go_loopw [3,4] (fun ov c wr=>∃ k:Nat,k≤l.length∧c = .int .i64 (k:Int)∧OK_ w wr ov (ptsL (l.take k))) (fun _ c _=>l.length-(intOf c).toNat)
 case atStart=>exact ⟨0,Nat.zero_le _,rfl,OE.nil w⟩
 case round =>
  obtain⟨k,hk,rfl,hov⟩:=hrel
  obtain⟨out,hout⟩:∃ out,ptsL (l.take k)=out:=⟨_,rfl⟩
  rw [hout] at hov
  have Hlen:=jX (show out.length=2*k by rw [← hout,ptsL_len,List.length_take,Nat.min_eq_left hk])
  have Hout:=jX hout
  have HO:=jX hov
  obtain⟨oo,oc,rfl⟩:=hov.form
  clear hov hout
  by_cases hlt:k<l.length
  ·skip
   obtain⟨g,o,rfl,hg,hat⟩:=IvR.elem HR.out k hlt
   have Hstep:=jX (ptsL_take hlt)
   generalize l[k]=i at *
   obtain⟨p,hp⟩:∃ p,o+k*20=p:=⟨_,rfl⟩
   rw [hp] at hat
   have HF:=jX (fun u (hu:Keep [] w u)=>load_real u g p _ (hat.keep (hu.block g hg (by simp))).frm)
   have HT:=jX (fun u (hu:Keep [] w u)=>load_real u g (p+9) _ (hat.keep (hu.block g hg (by simp))).upto)
   clear hat
   go_wp2_with fail
   refine wp_region_heldT (S:=fun u=>Keep [] w u) 13 (by kernel_rfl) (by kernel_rfl) (fun _ _ d _ _ h=>by cases d<;>exact h) ?_
   have hW:=Keep.drew [] wr
   have hS0:=HO.out.keep.trans0 hW
   generalize World.drew wr=u at *
   refine' jV (v:=_) 0 hS0 (fun w hw=>?he0) (fun K hK=>?ke0)
   case he0=>(go_simp;try rfl)
   go_simp
   refine hK _ ?_
   clear hK K
   refine' jV (v:=_) 1 hS0 (fun w hw=>?he1) (fun K hK=>?ke1)
   case he1=>(go_simp;try rfl)
   go_simp
   refine hK _ ?_
   clear hK K
   refine' jV (v:=_) 2 hS0 (fun w hw=>?he2) (fun K hK=>?ke2)
   case he2=>(go_simp;try rfl)
   go_simp
   refine hK _ ?_
   clear hK K
   refine' jV (v:=_) 3 hS0 (fun w hw=>?he3) (fun K hK=>?ke3)
   case he3=>(go_simp;try rfl)
   go_simp
   refine hK _ ?_
   clear hK K
   refine' jV (v:=_) 4 hS0 (fun w hw=>?he4) (fun K hK=>?ke4)
   case he4=>(go_simp;try rfl)
   go_simp
   refine hK _ ?_
   clear hK K
   refine jV (v:=kv i.f.pt) 5 hS0 (fun w hw=>exec_load _ _ ⟨g,p,none⟩ _ rfl rfl (HF.out _ hw)) (fun K hK=>?_)
   go_simp
   refine hK _ ?_
   clear hK K
   refine' jV (v:=_) 6 hS0 (fun w hw=>?he6) (fun K hK=>?ke6)
   case he6=>(go_simp;try rfl)
   go_simp
   refine hK _ ?_
   clear hK K
   refine' jV (v:=_) 7 hS0 (fun w hw=>?he7) (fun K hK=>?ke7)
   case he7=>(go_simp;try rfl)
   go_simp
   refine hK _ ?_
   clear hK K
   refine' jV (v:=_) 8 hS0 (fun w hw=>?he8) (fun K hK=>?ke8)
   case he8=>(go_simp;try rfl)
   go_simp
   refine hK _ ?_
   clear hK K
   refine' jV (v:=_) 9 hS0 (fun w hw=>?he9) (fun K hK=>?ke9)
   case he9=>(go_simp;try rfl)
   go_simp
   refine hK _ ?_
   clear hK K
   refine jV (v:=kv i.l.pt) 10 hS0 (fun w hw=>exec_load _ _ ⟨g,p+9,none⟩ _ rfl rfl (HT.out _ hw)) (fun K hK=>?_)
   go_simp
   refine hK _ ?_
   clear hK K
   refine jO 11 (fun K hK=>?_)
   obtain⟨ub,gx,e3,e4,hz1,hkx,hx⟩:=KR.pair i.f.pt i.l.pt u
   refine wp_op _ _ (exec_bs 56 2 #[(0,.tmp 16),(1,.tmp 21)] #[(0,kv i.f.pt),(1,kv i.l.pt)] _ rfl (by simp only [List.map_toArray,List.map_cons,List.map_nil];rfl) (build2_k _ _ _)) ?_
   rw [e3,e4]
   clear e3
   go_simp
   have hS0:=hS0.trans0 hkx
   have hW:=hW.trans0 hkx
   refine hK _ _ hS0 ?_
   clear hK K
   refine jO 12 (fun K hK=>?_)
   obtain⟨v4,u4,hr4,ho4,hn4,_⟩:=KR.app' (ty:=56) (HO.out.later hW) (.inr (by simp)) hx (by rw [Hlen.out];simp;omega)
   refine wp_op _ _ (exec_app (.tmp 11) (.tmp 22) 56 _ _ _ rfl rfl rfl hr4) ?_
   go_simp
   clear hr4
   refine hK _ _ ho4.keep ?_
   clear hK K
   have HN:=jX ho4
   obtain⟨no,nc,rfl⟩:=ho4.form
   refine ⟨by kernel_rfl,?_⟩
   simp only [List.drop_succ_cons,List.drop_zero]
   clear ho4 hS0 hW hkx hx hn4
   go_wp2_with fail
   go_roundw
   case rel=>exact ⟨k+1,by omega,congrArg (Value.int .i64) (by omega),by rw [Hstep.out,Hout.out];exact HN.out⟩
   case measure=>simp [intOf];omega
  obtain rfl:k=l.length:=by omega
  have hfin:out=ptsL l:=by rw [← Hout.out,List.take_length]
  have HC:=jX (sorted_c out wr _ HO.out.read (by rw [hfin,ptsL_len];omega))
  have Hfin:=jX hfin
  clear hfin
  go_wp2_with fail
  refine HC.out.mono ?_
  rintro e w5 ⟨v,rfl,hv,hk5⟩
  rw [Hfin.out] at hv
  have HV:=jX hv
  have HK5:=jX (HO.out.keep.trans0 hk5)
  clear hv hk5 HC
  dsimp only
  go_wp2_with fail
  go_ret
  exact ⟨_,rfl,HV.out,HK5.out⟩
end
theorem holds_take (l:List (Iv K)) (y:K) (k:Nat) (hk:k<l.length) (h:holds (l.take k) y=false):holds (l.take (k+1)) y=(inV (cmpQ l[k].f.pt.1 y.1) l[k].f.beh&&inV (cmpQ y.1 l[k].l.pt.1) (!l[k].l.beh)):=by
 rw [inV_in,List.take_succ_eq_append_getElem hk]
 unfold holds at *
 rw [List.any_append,h]
 simp
theorem holds_early (l:List (Iv K)) (y:K) (k:Nat) (h:holds (l.take k) y=true):holds l y=true:=by
 unfold holds at *
 rw [List.any_eq_true] at *
 obtain⟨i,hi,h⟩:=h
 exact ⟨i,List.mem_of_mem_take hi,h⟩
theorem holds_c (l:List (Iv K)) (y:K) (w:World) (sv:Value) (hr:IvR w sv l) (h9:l.length≤1000000000) :
  Calls Tryz.prog 23 #[sv,kv y] w fun e w'=>e = .returned (.bool (holds l y))∧Keep [] w w':=by
 have HR:=jX hr
 have HIN:=jX (fun i w=>in_c i y w)
 obtain⟨ao,ac,rfl,_⟩:=hr.form
 clear hr
 rw [kv_cells y] at HIN ⊢
 generalize sgB (y.1).p.num=x1 at *
 generalize mgS (y.1).p.num=x2 at *
 generalize dnS (y.1).p.den=x3 at *
 generalize sgB (y.1).r.num=x4 at *
 generalize mgS (y.1).r.num=x5 at *
 generalize dnS (y.1).r.den=x6 at *
 generalize (y.1).neg=x7 at *
 go_enter Tryz.func23,Tryz.ntmps23
 go_wp2_with fail
 obtain⟨W,ga,hW,ega,Bga,hga,hgW,HkW⟩:=al1h w (.cells #[.bool x1,.string x2,.bool false,.string x3,.bool x4,.string x5,.bool false,.string x6,.bool x7] 36)
 rw [← hW]
 try rw [ega]
 clear hW ega
 go_wp2_with fail
 go_loopw [5] (fun c wr=>∃ k:Nat,k≤l.length∧c = .int .i64 (k:Int)∧holds (l.take k) y=false∧Keep [] W wr) (fun c _=>l.length-(intOf c).toNat)
 case atStart=>exact ⟨0,Nat.zero_le _,rfl,rfl,Keep.refl _ _⟩
 case round =>
  obtain⟨k,hk,rfl,hno,hkeep⟩:=hrel
  have Hno:=jX hno
  have HKr:=jX hkeep
  clear hno
  replace Bga:=jH hkeep Bga
  replace HkW:=jX (HkW.out.trans0 hkeep)
  clear hkeep
  by_cases hlt:k<l.length
  ·obtain⟨g,o,rfl,hg,hat⟩:=IvR.elem (HR.out.later HkW.out) k hlt
   have Hnx:=jX (holds_take l y k hlt Hno.out)
   obtain⟨i,hi⟩:∃ i,l[k]=i:=⟨_,rfl⟩
   rw [hi] at Hnx hat
   have H1:=jX (HIN.out i)
   rw [iv_cells] at H1
   obtain⟨p,hp⟩:∃ p,o+k*20=p:=⟨_,rfl⟩
   rw [hp] at hat
   have HL:=hat.ld hg
   rw [iv_cells] at HL
   generalize (inV (cmpQ i.f.pt.1 y.1) i.f.beh&&inV (cmpQ y.1 i.l.pt.1) (!i.l.beh))=r at *
   clear hi hat HIN
   generalize sgB (i.f.pt.1).p.num=f1 at *
   generalize mgS (i.f.pt.1).p.num=f2 at *
   generalize dnS (i.f.pt.1).p.den=f3 at *
   generalize sgB (i.f.pt.1).r.num=f4 at *
   generalize mgS (i.f.pt.1).r.num=f5 at *
   generalize dnS (i.f.pt.1).r.den=f6 at *
   generalize (i.f.pt.1).neg=f7 at *
   generalize sgB (i.l.pt.1).p.num=t1 at *
   generalize mgS (i.l.pt.1).p.num=t2 at *
   generalize dnS (i.l.pt.1).p.den=t3 at *
   generalize sgB (i.l.pt.1).r.num=t4 at *
   generalize mgS (i.l.pt.1).r.num=t5 at *
   generalize dnS (i.l.pt.1).r.den=t6 at *
   generalize (i.l.pt.1).neg=t7 at *
   generalize i.f.beh=of at *
   generalize (!i.l.beh)=ot at *
   go_wp2_with fail
   have HLd:=jX HL
   clear HL
   have kga:=kw_cells Bga.out
   have Q1:Hid (∀ m:KW wr,Calls Tryz.prog 69 #[.agg #[.bool f1,.string f2,.bool false,.string f3,.bool f4,.string f5,.bool false,.string f6,.bool f7,.bool t1,.string t2,.bool false,.string t3,.bool t4,.string t5,.bool false,.string t6,.bool t7,.bool of,.bool ot],.agg #[.bool x1,.string x2,.bool false,.string x3,.bool x4,.string x5,.bool false,.string x6,.bool x7]] (Wk wr m) fun e w'=>e = .returned (.bool r)∧∃ m,w'=Wk wr m):=fun m=>qk m (H1.out _)
   refine wp_region_keep (by kernel_rfl) (by kernel_rfl) ?_
   repeat (first
    | go_big_quiet_skip
    | (go_big_quiet_want;first
     | (refine quiet_load _ _ _ (.agg #[.bool f1,.string f2,.bool false,.string f3,.bool f4,.string f5,.bool false,.string f6,.bool f7,.bool t1,.string t2,.bool false,.string t3,.bool t4,.string t5,.bool false,.string t6,.bool t7,.bool of,.bool ot]) rfl rfl (by rintro _ ⟨m,rfl⟩;exact HLd.out m) ?_;go_simp;go_big_quiet_on)
     | (go_big_quiet_op;first|go_big_quiet_on|go_big_quiet_call (first
      | (go_at_call 69;with_reducible exact (Q1).out _)))))
   refine wpQuiet_nil ?_
   rintro w1 ⟨⟨_,hk_w1⟩,rfl⟩
   clear kga Q1 HLd
   have Hk1:=jX hk_w1
   have HkX:=jX (HkW.out.trans0 hk_w1)
   cases r with
   | true =>
    go_wp2_with fail
    go_ret
    exact ⟨by rw [holds_early l y (k+1) Hnx.out];rfl,HkX.out⟩
   | false =>
    go_wp2_with fail
    go_roundw
    case rel=>exact ⟨k+1,by omega,congrArg (Value.int .i64) (by omega),Hnx.out,HKr.out.trans0 Hk1.out⟩
    case measure=>simp [intOf];omega
  obtain rfl:k=l.length:=by omega
  rw [List.take_length] at Hno
  clear HIN
  go_wp2_with fail
  go_ret
  exact ⟨by rw [Hno.out];rfl,HkW.out⟩
theorem cmp_le (x y:K):decide (cmpQ x.1 y.1≤0)=true↔x≤y:=by
 rcases K.tri x y with ⟨h,g⟩|⟨h,g⟩|⟨h,g⟩<;>rw [h]<;>simp<;>grind
open Classical in
theorem spans_take (l:List (Iv K)) (y z:K) (k:Nat) (hk:k<l.length) (h:spans (l.take k) y z=false):spans (l.take (k+1)) y z=(decide (cmpQ l[k].f.pt.1 y.1≤0)&&decide (cmpQ z.1 l[k].l.pt.1≤0)):=by
 rw [List.take_succ_eq_append_getElem hk]
 unfold spans at *
 rw [List.any_append,h]
 simp only [List.any_cons,List.any_nil,Bool.or_false,Bool.false_or]
 rw [Bool.eq_iff_iff,decide_eq_true_iff,Bool.and_eq_true,cmp_le,cmp_le]
theorem spans_early (l:List (Iv K)) (y z:K) (k:Nat) (h:spans (l.take k) y z=true):spans l y z=true:=by
 unfold spans at *
 rw [List.any_eq_true] at *
 obtain⟨i,hi,h⟩:=h
 exact ⟨i,List.mem_of_mem_take hi,h⟩
theorem spans_c (l:List (Iv K)) (y z:K) (w:World) (sv:Value) (hr:IvR w sv l) (h9:l.length≤1000000000) :
  Calls Tryz.prog 39 #[sv,kv y,kv z] w fun e w'=>e = .returned (.bool (spans l y z))∧Keep [] w w':=by
 have HR:=jX hr
 have HC1:=jX (fun x w=>kcmp_c x y w)
 have HC2:=jX (fun x w=>kcmp_c z x w)
 have HX:=jX (fun w g=>@kw_k w g y 36)
 have HY:=jX (fun w g=>@kw_k w g z 36)
 obtain⟨ao,ac,rfl,_⟩:=hr.form
 clear hr
 unfold kv at *
 generalize kC y=X at *
 generalize kC z=Y at *
 go_enter Tryz.func39,Tryz.ntmps39
 go_wp2_with fail
 obtain⟨W,ga,gb,hW,ega,egb,Bga,Bgb,hga,hgb,hgW,HkW⟩:=al2h w (.cells X 36) (.cells Y 36)
 rw [← hW]
 try rw [egb]
 try rw [ega]
 clear hW ega egb
 go_wp2_with fail
 go_loopw [7] (fun c wr=>∃ k:Nat,k≤l.length∧c = .int .i64 (k:Int)∧spans (l.take k) y z=false∧Keep [] W wr) (fun c _=>l.length-(intOf c).toNat)
 case atStart=>exact ⟨0,Nat.zero_le _,rfl,rfl,Keep.refl _ _⟩
 case round =>
  obtain⟨k,hk,rfl,hno,hkeep⟩:=hrel
  have Hno:=jX hno
  have HKr:=jX hkeep
  clear hno
  replace Bga:=jH hkeep Bga
  replace Bgb:=jH hkeep Bgb
  replace HkW:=jX (HkW.out.trans0 hkeep)
  clear hkeep
  by_cases hlt:k<l.length
  ·obtain⟨g,o,rfl,hg,hat⟩:=IvR.elem (HR.out.later HkW.out) k hlt
   have Hnx:=jX (spans_take l y z k hlt Hno.out)
   obtain⟨i,hi⟩:∃ i,l[k]=i:=⟨_,rfl⟩
   rw [hi] at Hnx hat
   have ha:=cmp_tri i.f.pt y
   have hb:=cmp_tri z i.l.pt
   have H1:=jX (HC1.out i.f.pt)
   have H2:=jX (HC2.out i.l.pt)
   obtain⟨p,hp⟩:∃ p,o+k*20=p:=⟨_,rfl⟩
   rw [hp] at hat
   have HLf:=jX (hat.ldf hg)
   have HLt:=jX (hat.ldt hg)
   have HLx:=jX (HX.out _ _ Bga.out)
   have HLy:=jX (HY.out _ _ Bgb.out)
   generalize cmpQ i.f.pt.1 y.1=a at *
   generalize cmpQ z.1 i.l.pt.1=b at *
   unfold kv at *
   generalize kC i.f.pt=F at *
   generalize kC i.l.pt=T at *
   clear hi hat HC1 HC2 HX HY
   rcases ha with rfl|rfl|rfl
   ·have Q1:Hid (∀ m:KW wr,Calls Tryz.prog 38 #[.agg F,.agg X] (Wk wr m) fun e w'=>e = .returned (.int .i64 (-1))∧∃ m,w'=Wk wr m):=fun m=>qk m (H1.out _)
    clear H1
    rcases hb with rfl|rfl|rfl
    ·have Q2:Hid (∀ m:KW wr,Calls Tryz.prog 38 #[.agg Y,.agg T] (Wk wr m) fun e w'=>e = .returned (.int .i64 (-1))∧∃ m,w'=Wk wr m):=fun m=>qk m (H2.out _)
     clear H2
     go_wp2_with fail
     refine wp_region_keep (by kernel_rfl) (by kernel_rfl) ?_
     repeat (first
      | go_big_quiet_skip
      | (go_big_quiet_want;first
       | (refine quiet_load _ _ _ (.agg F) rfl rfl (by rintro _ ⟨m,rfl⟩;exact HLf.out m) ?_;go_simp;go_big_quiet_on)|(refine quiet_load _ _ _ (.agg T) rfl rfl (by rintro _ ⟨m,rfl⟩;exact HLt.out m) ?_;go_simp;go_big_quiet_on)|(refine quiet_load _ _ _ (.agg X) rfl rfl (by rintro _ ⟨m,rfl⟩;exact HLx.out m) ?_;go_simp;go_big_quiet_on)|(refine quiet_load _ _ _ (.agg Y) rfl rfl (by rintro _ ⟨m,rfl⟩;exact HLy.out m) ?_;go_simp;go_big_quiet_on)
       | (go_big_quiet_op;first|go_big_quiet_on|go_big_quiet_call (first
        | (go_at_call 38;with_reducible exact (Q1).out _)|(go_at_call 38;with_reducible exact (Q2).out _)))))
     refine wpQuiet_nil ?_
     rintro w1 ⟨⟨_,hk_w1⟩,rfl⟩
     clear Q1 Q2 HLf HLt HLx HLy
     have Hk1:=jX hk_w1
     have HkX:=jX (HkW.out.trans0 hk_w1)
     clear hk_w1
     go_wp2_with fail
     go_ret
     exact ⟨by rw [spans_early l y z (k+1) Hnx.out];rfl,HkX.out⟩
    ·have Q2:Hid (∀ m:KW wr,Calls Tryz.prog 38 #[.agg Y,.agg T] (Wk wr m) fun e w'=>e = .returned (.int .i64 0)∧∃ m,w'=Wk wr m):=fun m=>qk m (H2.out _)
     clear H2
     go_wp2_with fail
     refine wp_region_keep (by kernel_rfl) (by kernel_rfl) ?_
     repeat (first
      | go_big_quiet_skip
      | (go_big_quiet_want;first
       | (refine quiet_load _ _ _ (.agg F) rfl rfl (by rintro _ ⟨m,rfl⟩;exact HLf.out m) ?_;go_simp;go_big_quiet_on)|(refine quiet_load _ _ _ (.agg T) rfl rfl (by rintro _ ⟨m,rfl⟩;exact HLt.out m) ?_;go_simp;go_big_quiet_on)|(refine quiet_load _ _ _ (.agg X) rfl rfl (by rintro _ ⟨m,rfl⟩;exact HLx.out m) ?_;go_simp;go_big_quiet_on)|(refine quiet_load _ _ _ (.agg Y) rfl rfl (by rintro _ ⟨m,rfl⟩;exact HLy.out m) ?_;go_simp;go_big_quiet_on)
       | (go_big_quiet_op;first|go_big_quiet_on|go_big_quiet_call (first
        | (go_at_call 38;with_reducible exact (Q1).out _)|(go_at_call 38;with_reducible exact (Q2).out _)))))
     refine wpQuiet_nil ?_
     rintro w1 ⟨⟨_,hk_w1⟩,rfl⟩
     clear Q1 Q2 HLf HLt HLx HLy
     have Hk1:=jX hk_w1
     have HkX:=jX (HkW.out.trans0 hk_w1)
     clear hk_w1
     go_wp2_with fail
     go_ret
     exact ⟨by rw [spans_early l y z (k+1) Hnx.out];rfl,HkX.out⟩
    have Q2:Hid (∀ m:KW wr,Calls Tryz.prog 38 #[.agg Y,.agg T] (Wk wr m) fun e w'=>e = .returned (.int .i64 1)∧∃ m,w'=Wk wr m):=fun m=>qk m (H2.out _)
    clear H2
    go_wp2_with fail
    refine wp_region_keep (by kernel_rfl) (by kernel_rfl) ?_
    repeat (first
     | go_big_quiet_skip
     | (go_big_quiet_want;first
      | (refine quiet_load _ _ _ (.agg F) rfl rfl (by rintro _ ⟨m,rfl⟩;exact HLf.out m) ?_;go_simp;go_big_quiet_on)|(refine quiet_load _ _ _ (.agg T) rfl rfl (by rintro _ ⟨m,rfl⟩;exact HLt.out m) ?_;go_simp;go_big_quiet_on)|(refine quiet_load _ _ _ (.agg X) rfl rfl (by rintro _ ⟨m,rfl⟩;exact HLx.out m) ?_;go_simp;go_big_quiet_on)|(refine quiet_load _ _ _ (.agg Y) rfl rfl (by rintro _ ⟨m,rfl⟩;exact HLy.out m) ?_;go_simp;go_big_quiet_on)
      | (go_big_quiet_op;first|go_big_quiet_on|go_big_quiet_call (first
       | (go_at_call 38;with_reducible exact (Q1).out _)|(go_at_call 38;with_reducible exact (Q2).out _)))))
    refine wpQuiet_nil ?_
    rintro w1 ⟨⟨_,hk_w1⟩,rfl⟩
    clear Q1 Q2 HLf HLt HLx HLy
    have Hk1:=jX hk_w1
    have HkX:=jX (HkW.out.trans0 hk_w1)
    clear hk_w1
    go_wp2_with fail
    go_roundw
    case rel=>exact ⟨k+1,by omega,congrArg (Value.int .i64) (by omega),Hnx.out,HKr.out.trans0 Hk1.out⟩
    case measure=>simp [intOf];omega
   ·have Q1:Hid (∀ m:KW wr,Calls Tryz.prog 38 #[.agg F,.agg X] (Wk wr m) fun e w'=>e = .returned (.int .i64 0)∧∃ m,w'=Wk wr m):=fun m=>qk m (H1.out _)
    clear H1
    rcases hb with rfl|rfl|rfl
    ·have Q2:Hid (∀ m:KW wr,Calls Tryz.prog 38 #[.agg Y,.agg T] (Wk wr m) fun e w'=>e = .returned (.int .i64 (-1))∧∃ m,w'=Wk wr m):=fun m=>qk m (H2.out _)
     clear H2
     go_wp2_with fail
     refine wp_region_keep (by kernel_rfl) (by kernel_rfl) ?_
     repeat (first
      | go_big_quiet_skip
      | (go_big_quiet_want;first
       | (refine quiet_load _ _ _ (.agg F) rfl rfl (by rintro _ ⟨m,rfl⟩;exact HLf.out m) ?_;go_simp;go_big_quiet_on)|(refine quiet_load _ _ _ (.agg T) rfl rfl (by rintro _ ⟨m,rfl⟩;exact HLt.out m) ?_;go_simp;go_big_quiet_on)|(refine quiet_load _ _ _ (.agg X) rfl rfl (by rintro _ ⟨m,rfl⟩;exact HLx.out m) ?_;go_simp;go_big_quiet_on)|(refine quiet_load _ _ _ (.agg Y) rfl rfl (by rintro _ ⟨m,rfl⟩;exact HLy.out m) ?_;go_simp;go_big_quiet_on)
       | (go_big_quiet_op;first|go_big_quiet_on|go_big_quiet_call (first
        | (go_at_call 38;with_reducible exact (Q1).out _)|(go_at_call 38;with_reducible exact (Q2).out _)))))
     refine wpQuiet_nil ?_
     rintro w1 ⟨⟨_,hk_w1⟩,rfl⟩
     clear Q1 Q2 HLf HLt HLx HLy
     have Hk1:=jX hk_w1
     have HkX:=jX (HkW.out.trans0 hk_w1)
     clear hk_w1
     go_wp2_with fail
     go_ret
     exact ⟨by rw [spans_early l y z (k+1) Hnx.out];rfl,HkX.out⟩
    ·have Q2:Hid (∀ m:KW wr,Calls Tryz.prog 38 #[.agg Y,.agg T] (Wk wr m) fun e w'=>e = .returned (.int .i64 0)∧∃ m,w'=Wk wr m):=fun m=>qk m (H2.out _)
     clear H2
     go_wp2_with fail
     refine wp_region_keep (by kernel_rfl) (by kernel_rfl) ?_
     repeat (first
      | go_big_quiet_skip
      | (go_big_quiet_want;first
       | (refine quiet_load _ _ _ (.agg F) rfl rfl (by rintro _ ⟨m,rfl⟩;exact HLf.out m) ?_;go_simp;go_big_quiet_on)|(refine quiet_load _ _ _ (.agg T) rfl rfl (by rintro _ ⟨m,rfl⟩;exact HLt.out m) ?_;go_simp;go_big_quiet_on)|(refine quiet_load _ _ _ (.agg X) rfl rfl (by rintro _ ⟨m,rfl⟩;exact HLx.out m) ?_;go_simp;go_big_quiet_on)|(refine quiet_load _ _ _ (.agg Y) rfl rfl (by rintro _ ⟨m,rfl⟩;exact HLy.out m) ?_;go_simp;go_big_quiet_on)
       | (go_big_quiet_op;first|go_big_quiet_on|go_big_quiet_call (first
        | (go_at_call 38;with_reducible exact (Q1).out _)|(go_at_call 38;with_reducible exact (Q2).out _)))))
     refine wpQuiet_nil ?_
     rintro w1 ⟨⟨_,hk_w1⟩,rfl⟩
     clear Q1 Q2 HLf HLt HLx HLy
     have Hk1:=jX hk_w1
     have HkX:=jX (HkW.out.trans0 hk_w1)
     clear hk_w1
     go_wp2_with fail
     go_ret
     exact ⟨by rw [spans_early l y z (k+1) Hnx.out];rfl,HkX.out⟩
    have Q2:Hid (∀ m:KW wr,Calls Tryz.prog 38 #[.agg Y,.agg T] (Wk wr m) fun e w'=>e = .returned (.int .i64 1)∧∃ m,w'=Wk wr m):=fun m=>qk m (H2.out _)
    clear H2
    go_wp2_with fail
    refine wp_region_keep (by kernel_rfl) (by kernel_rfl) ?_
    repeat (first
     | go_big_quiet_skip
     | (go_big_quiet_want;first
      | (refine quiet_load _ _ _ (.agg F) rfl rfl (by rintro _ ⟨m,rfl⟩;exact HLf.out m) ?_;go_simp;go_big_quiet_on)|(refine quiet_load _ _ _ (.agg T) rfl rfl (by rintro _ ⟨m,rfl⟩;exact HLt.out m) ?_;go_simp;go_big_quiet_on)|(refine quiet_load _ _ _ (.agg X) rfl rfl (by rintro _ ⟨m,rfl⟩;exact HLx.out m) ?_;go_simp;go_big_quiet_on)|(refine quiet_load _ _ _ (.agg Y) rfl rfl (by rintro _ ⟨m,rfl⟩;exact HLy.out m) ?_;go_simp;go_big_quiet_on)
      | (go_big_quiet_op;first|go_big_quiet_on|go_big_quiet_call (first
       | (go_at_call 38;with_reducible exact (Q1).out _)|(go_at_call 38;with_reducible exact (Q2).out _)))))
    refine wpQuiet_nil ?_
    rintro w1 ⟨⟨_,hk_w1⟩,rfl⟩
    clear Q1 Q2 HLf HLt HLx HLy
    have Hk1:=jX hk_w1
    have HkX:=jX (HkW.out.trans0 hk_w1)
    clear hk_w1
    go_wp2_with fail
    go_roundw
    case rel=>exact ⟨k+1,by omega,congrArg (Value.int .i64) (by omega),Hnx.out,HKr.out.trans0 Hk1.out⟩
    case measure=>simp [intOf];omega
   have Q1:Hid (∀ m:KW wr,Calls Tryz.prog 38 #[.agg F,.agg X] (Wk wr m) fun e w'=>e = .returned (.int .i64 1)∧∃ m,w'=Wk wr m):=fun m=>qk m (H1.out _)
   clear H1
   have hr0:(decide ((1:Int)≤0)&&decide (b≤0))=false:=rfl
   rw [hr0] at Hnx
   have Q2:Hid (∀ m:KW wr,Calls Tryz.prog 38 #[.agg Y,.agg T] (Wk wr m) fun e w'=>e = .returned (.int .i64 b)∧∃ m,w'=Wk wr m):=fun m=>qk m (H2.out _)
   clear H2 hr0
   go_wp2_with fail
   refine wp_region_keep (by kernel_rfl) (by kernel_rfl) ?_
   repeat (first
    | go_big_quiet_skip
    | (go_big_quiet_want;first
     | (refine quiet_load _ _ _ (.agg F) rfl rfl (by rintro _ ⟨m,rfl⟩;exact HLf.out m) ?_;go_simp;go_big_quiet_on)|(refine quiet_load _ _ _ (.agg T) rfl rfl (by rintro _ ⟨m,rfl⟩;exact HLt.out m) ?_;go_simp;go_big_quiet_on)|(refine quiet_load _ _ _ (.agg X) rfl rfl (by rintro _ ⟨m,rfl⟩;exact HLx.out m) ?_;go_simp;go_big_quiet_on)|(refine quiet_load _ _ _ (.agg Y) rfl rfl (by rintro _ ⟨m,rfl⟩;exact HLy.out m) ?_;go_simp;go_big_quiet_on)
     | (go_big_quiet_op;first|go_big_quiet_on|go_big_quiet_call (first
      | (go_at_call 38;with_reducible exact (Q1).out _)|(go_at_call 38;with_reducible exact (Q2).out _)))))
   refine wpQuiet_nil ?_
   rintro w1 ⟨⟨_,hk_w1⟩,rfl⟩
   clear Q1 Q2 HLf HLt HLx HLy
   have Hk1:=jX hk_w1
   have HkX:=jX (HkW.out.trans0 hk_w1)
   clear hk_w1
   go_wp2_with fail
   go_roundw
   case rel=>exact ⟨k+1,by omega,congrArg (Value.int .i64) (by omega),Hnx.out,HKr.out.trans0 Hk1.out⟩
   case measure=>simp [intOf];omega
  obtain rfl:k=l.length:=by omega
  rw [List.take_length] at Hno
  clear HC1 HC2 HX HY
  go_wp2_with fail
  go_ret
  exact ⟨by rw [Hno.out];rfl,HkW.out⟩
def decV (op:Int) (a b:Bool):Bool:=if op=1 then a || b else if op=2 then a&&b else a && !b
theorem decV_zero (op:Int):decV op false false=false:=by unfold decV;split<;>(try split)<;>rfl
theorem decide_c (op:Int) (h:op=1∨op=2∨op=3) (a b:Bool) (w:World) :
  Calls Tryz.prog 91 #[.int .i64 op,.bool a,.bool b] w fun e w'=>e = .returned (.bool (decV op a b))∧Keep [] w w':=by
 rcases h with rfl|rfl|rfl<;>cases a<;>cases b
 all_goals
  go_enter Tryz.func91,Tryz.ntmps91
  go_wp2_with fail
  go_ret
  exact ⟨rfl,Keep.refl _ _⟩
def isIvV (a:Int) (o c:Bool):Bool:=decide (a<0) || (a == 0 && !o && !c)
theorem isIvV_iff (i:Iv K):isIvV (cmpQ i.f.pt.1 i.l.pt.1) i.f.beh (!i.l.beh)=true↔i.f<i.l:=by
 unfold isIvV
 rw [Bd.lt_def]
 rcases K.tri i.f.pt i.l.pt with ⟨h,g⟩|⟨h,g⟩|⟨h,g⟩<;>rw [h]<;>cases i.f.beh<;>cases i.l.beh<;>simp<;>grind
theorem isiv_c (i:Iv K) (w:World) :
  Calls Tryz.prog 135 #[iv i] w fun e w'=>e = .returned (.bool (isIvV (cmpQ i.f.pt.1 i.l.pt.1) i.f.beh (!i.l.beh)))∧Keep [] w w':=by
 have H1:=jX (kcmp_c i.f.pt i.l.pt)
 have ha:=cmp_tri i.f.pt i.l.pt
 generalize cmpQ i.f.pt.1 i.l.pt.1=a at *
 rw [iv_cells]
 rw [kv_cells,kv_cells] at H1
 generalize sgB (i.f.pt.1).p.num=f1 at *
 generalize mgS (i.f.pt.1).p.num=f2 at *
 generalize dnS (i.f.pt.1).p.den=f3 at *
 generalize sgB (i.f.pt.1).r.num=f4 at *
 generalize mgS (i.f.pt.1).r.num=f5 at *
 generalize dnS (i.f.pt.1).r.den=f6 at *
 generalize (i.f.pt.1).neg=f7 at *
 generalize sgB (i.l.pt.1).p.num=t1 at *
 generalize mgS (i.l.pt.1).p.num=t2 at *
 generalize dnS (i.l.pt.1).p.den=t3 at *
 generalize sgB (i.l.pt.1).r.num=t4 at *
 generalize mgS (i.l.pt.1).r.num=t5 at *
 generalize dnS (i.l.pt.1).r.den=t6 at *
 generalize (i.l.pt.1).neg=t7 at *
 generalize i.f.beh=o at *
 generalize (!i.l.beh)=c at *
 have done:∀ {r:Bool},r=isIvV a o c→Calls Tryz.prog 135 #[.agg #[.bool f1,.string f2,.bool false,.string f3,.bool f4,.string f5,.bool false,.string f6,.bool f7,.bool t1,.string t2,.bool false,.string t3,.bool t4,.string t5,.bool false,.string t6,.bool t7,.bool o,.bool c]] w (fun e w'=>e = .returned (.bool r)∧Keep [] w w')→Calls Tryz.prog 135 #[.agg #[.bool f1,.string f2,.bool false,.string f3,.bool f4,.string f5,.bool false,.string f6,.bool f7,.bool t1,.string t2,.bool false,.string t3,.bool t4,.string t5,.bool false,.string t6,.bool t7,.bool o,.bool c]] w (fun e w'=>e = .returned (.bool (isIvV a o c))∧Keep [] w w'):=fun h h2=>by rw [← h];exact h2
 rcases ha with rfl|rfl|rfl
 ·refine done (r:=true) rfl ?_
  clear done
  go_enter Tryz.func135,Tryz.ntmps135
  go_wp2_with fail
  obtain⟨W,ga,hW,ega,Bga,hga,hgW,HkW⟩:=al1h w (.cells #[.bool f1,.string f2,.bool false,.string f3,.bool f4,.string f5,.bool false,.string f6,.bool f7,.bool t1,.string t2,.bool false,.string t3,.bool t4,.string t5,.bool false,.string t6,.bool t7,.bool o,.bool c] 49)
  rw [← hW]
  try rw [ega]
  clear hW ega
  obtain⟨pga,fga,lga⟩:=jQ Bga
  go_wp2_with fail
  refine (H1.out _).mono ?_
  rintro e w1 ⟨rfl,hk_w1⟩
  dsimp only
  clear pga fga lga
  replace Bga:=jH hk_w1 Bga
  replace HkW:=jX (HkW.out.trans0 hk_w1)
  clear hk_w1
  obtain⟨pga,fga,lga⟩:=jQ Bga
  go_wp2_with fail
  go_ret
  exact ⟨rfl,by repeat (first|(with_reducible exact HkW.out)|(refine Keep.setPast ?_ _ _ _ (by omega))|(refine Keep.allocPast ?_ _)|(refine Keep.drewPast ?_))⟩
 ·cases o
  ·refine done (r:=!c) (by cases c<;>rfl) ?_
   clear done
   cases c
   all_goals
    go_enter Tryz.func135,Tryz.ntmps135
    go_wp2_with fail
    obtain⟨W,ga,hW,ega,Bga,hga,hgW,HkW⟩:=al1h w (.cells #[.bool f1,.string f2,.bool false,.string f3,.bool f4,.string f5,.bool false,.string f6,.bool f7,.bool t1,.string t2,.bool false,.string t3,.bool t4,.string t5,.bool false,.string t6,.bool t7,.bool false,.bool _] 49)
    rw [← hW]
    try rw [ega]
    clear hW ega
    obtain⟨pga,fga,lga⟩:=jQ Bga
    go_wp2_with fail
    refine (H1.out _).mono ?_
    rintro e w1 ⟨rfl,hk_w1⟩
    dsimp only
    clear pga fga lga
    replace Bga:=jH hk_w1 Bga
    replace HkW:=jX (HkW.out.trans0 hk_w1)
    clear hk_w1
    obtain⟨pga,fga,lga⟩:=jQ Bga
    go_wp2_with fail
    go_ret
    exact ⟨rfl,by repeat (first|(with_reducible exact HkW.out)|(refine Keep.setPast ?_ _ _ _ (by omega))|(refine Keep.allocPast ?_ _)|(refine Keep.drewPast ?_))⟩
  refine done (r:=false) rfl ?_
  clear done
  go_enter Tryz.func135,Tryz.ntmps135
  go_wp2_with fail
  obtain⟨W,ga,hW,ega,Bga,hga,hgW,HkW⟩:=al1h w (.cells #[.bool f1,.string f2,.bool false,.string f3,.bool f4,.string f5,.bool false,.string f6,.bool f7,.bool t1,.string t2,.bool false,.string t3,.bool t4,.string t5,.bool false,.string t6,.bool t7,.bool true,.bool c] 49)
  rw [← hW]
  try rw [ega]
  clear hW ega
  obtain⟨pga,fga,lga⟩:=jQ Bga
  go_wp2_with fail
  refine (H1.out _).mono ?_
  rintro e w1 ⟨rfl,hk_w1⟩
  dsimp only
  clear pga fga lga
  replace Bga:=jH hk_w1 Bga
  replace HkW:=jX (HkW.out.trans0 hk_w1)
  clear hk_w1
  obtain⟨pga,fga,lga⟩:=jQ Bga
  go_wp2_with fail
  go_ret
  exact ⟨rfl,by repeat (first|(with_reducible exact HkW.out)|(refine Keep.setPast ?_ _ _ _ (by omega))|(refine Keep.allocPast ?_ _)|(refine Keep.drewPast ?_))⟩
 refine done (r:=false) rfl ?_
 clear done
 go_enter Tryz.func135,Tryz.ntmps135
 go_wp2_with fail
 obtain⟨W,ga,hW,ega,Bga,hga,hgW,HkW⟩:=al1h w (.cells #[.bool f1,.string f2,.bool false,.string f3,.bool f4,.string f5,.bool false,.string f6,.bool f7,.bool t1,.string t2,.bool false,.string t3,.bool t4,.string t5,.bool false,.string t6,.bool t7,.bool o,.bool c] 49)
 rw [← hW]
 try rw [ega]
 clear hW ega
 obtain⟨pga,fga,lga⟩:=jQ Bga
 go_wp2_with fail
 refine (H1.out _).mono ?_
 rintro e w1 ⟨rfl,hk_w1⟩
 dsimp only
 clear pga fga lga
 replace Bga:=jH hk_w1 Bga
 replace HkW:=jX (HkW.out.trans0 hk_w1)
 clear hk_w1
 obtain⟨pga,fga,lga⟩:=jQ Bga
 go_wp2_with fail
 go_ret
 exact ⟨rfl,by repeat (first|(with_reducible exact HkW.out)|(refine Keep.setPast ?_ _ _ _ (by omega))|(refine Keep.allocPast ?_ _)|(refine Keep.drewPast ?_))⟩
end Go.Proofs.YtejegogbhpmgfaaGreatDoor
