/- Parts of a proof: St Su Sv Tm. -/
import Derived.Deep.CutBlock
import Derived.IntWalk
import Derived.Test.YtejegogbhpmgfaaGreatDoorG12
import Derived.Test.YtejegogbhpmgfaaGreatDoorG30
import Derived.Test.YtejegogbhpmgfaaGreatDoorG15
import Derived.Test.YtejegogbhpmgfaaGreatDoorG31
import Derived.Test.YtejegogbhpmgfaaGreatDoorG13
set_option linter.unusedVariables false
set_option linter.unusedSimpArgs false
set_option maxRecDepth 100000
set_option maxHeartbeats 8000000
namespace Go.Proofs.YtejegogbhpmgfaaGreatDoor
open Go.RowKit Tryz
theorem yjb (l:List (Iv K)) (y:K) (k:Nat) (hk:k<l.length) (h:holds (l.take k) y=false):holds (l.take (k+1)) y=(inV (cmpQ l[k].f.pt.1 y.1) l[k].f.beh&&inV (cmpQ y.1 l[k].l.pt.1) (!l[k].l.beh)):=by
 rw [inV_in,List.take_succ_eq_append_getElem hk];unfold holds at *;rw [List.any_append,h];simp
theorem yhD (l:List (Iv K)) (y:K) (k:Nat) (h:holds (l.take k) y=true):holds l y=true:=by
 unfold holds at *;rw [List.any_eq_true] at *;obtain⟨i,hi,h⟩:=h;exact ⟨i,List.mem_of_mem_take hi,h⟩
theorem holds_c (l:List (Iv K)) (y:K) (w:World) (sv:Value) (hr:IvR w sv l) (h9:l.length≤1000000000) :
  Calls prog 23 #[sv,kv y] w fun e w'=>e = .returned (.bool (holds l y))∧Keep [] w w':=by
 have HR:=jX hr;have HIN:=jX (fun i w=>in_c i y w);obtain⟨ao,ac,rfl,_⟩:=hr.form;clear hr;rw [yaI y] at HIN ⊢;generalize sgB (y.1).p.num=x1 at *;generalize mgS (y.1).p.num=x2 at *;generalize dnS (y.1).p.den=x3 at *;generalize sgB (y.1).r.num=x4 at *;generalize mgS (y.1).r.num=x5 at *;generalize dnS (y.1).r.den=x6 at *;generalize (y.1).neg=x7 at *;go_enter func23,ntmps23
 go_wp2_with fail;obtain⟨W,ga,hW,ega,Bga,hga,hgW,HkW⟩:=al1h w (.cells #[.bool x1,.string x2,.bool false,.string x3,.bool x4,.string x5,.bool false,.string x6,.bool x7] 36);rw [← hW];try rw [ega]
 clear hW ega;go_wp2_with fail;go_loopw [5] (fun c wr=>∃ k:Nat,k≤l.length∧c = .int .i64 (k:Int)∧holds (l.take k) y=false∧Keep [] W wr) (fun c _=>l.length-(intOf c).toNat)
 case atStart=>exact ⟨0,Nat.zero_le _,rfl,rfl,Keep.refl _ _⟩
 case round =>
  obtain⟨k,hk,rfl,hno,hkeep⟩:=hrel;have Hno:=jX hno;have HKr:=jX hkeep;clear hno;replace Bga:=jH hkeep Bga;replace HkW:=jX (HkW.out.tz hkeep);clear hkeep;by_cases hlt:k<l.length
  ·obtain⟨g,o,rfl,hg,hat⟩:=IvR.elem (HR.out.later HkW.out) k hlt
   have Hnx:=jX (yjb l y k hlt Hno.out);obtain⟨i,hi⟩:∃ i,l[k]=i:=⟨_,rfl⟩;rw [hi] at Hnx hat;have H1:=jX (HIN.out i);rw [ybk] at H1;obtain⟨p,hp⟩:∃ p,o+k*20=p:=⟨_,rfl⟩;rw [hp] at hat;have HL:=hat.ld hg;rw [ybk] at HL;generalize (inV (cmpQ i.f.pt.1 y.1) i.f.beh&&inV (cmpQ y.1 i.l.pt.1) (!i.l.beh))=r at *;clear hi hat HIN;generalize sgB (i.f.pt.1).p.num=f1 at *;generalize mgS (i.f.pt.1).p.num=f2 at *;generalize dnS (i.f.pt.1).p.den=f3 at *;generalize sgB (i.f.pt.1).r.num=f4 at *;generalize mgS (i.f.pt.1).r.num=f5 at *;generalize dnS (i.f.pt.1).r.den=f6 at *;generalize (i.f.pt.1).neg=f7 at *;generalize sgB (i.l.pt.1).p.num=t1 at *;generalize mgS (i.l.pt.1).p.num=t2 at *;generalize dnS (i.l.pt.1).p.den=t3 at *;generalize sgB (i.l.pt.1).r.num=t4 at *;generalize mgS (i.l.pt.1).r.num=t5 at *;generalize dnS (i.l.pt.1).r.den=t6 at *;generalize (i.l.pt.1).neg=t7 at *;generalize i.f.beh=of at *;generalize (!i.l.beh)=ot at *;go_wp2_with fail;have HLd:=jX HL;clear HL;have kga:=yag Bga.out;have Q1:Hid (∀ m:KW wr,Calls prog 69 #[.agg #[.bool f1,.string f2,.bool false,.string f3,.bool f4,.string f5,.bool false,.string f6,.bool f7,.bool t1,.string t2,.bool false,.string t3,.bool t4,.string t5,.bool false,.string t6,.bool t7,.bool of,.bool ot],.agg #[.bool x1,.string x2,.bool false,.string x3,.bool x4,.string x5,.bool false,.string x6,.bool x7]] (Wk wr m) fun e w'=>e = .returned (.bool r)∧∃ m,w'=Wk wr m):=fun m=>qk m (H1.out _);refine yac (by kernel_rfl) (by kernel_rfl) ?_
   repeat (first
    | go_big_quiet_skip
    | (go_big_quiet_want;first
     | (refine yai _ _ _ (.agg #[.bool f1,.string f2,.bool false,.string f3,.bool f4,.string f5,.bool false,.string f6,.bool f7,.bool t1,.string t2,.bool false,.string t3,.bool t4,.string t5,.bool false,.string t6,.bool t7,.bool of,.bool ot]) rfl rfl (by rintro _ ⟨m,rfl⟩;exact HLd.out m) ?_;go_simp;go_big_quiet_on)
     | (go_big_quiet_op;first|go_big_quiet_on|go_big_quiet_call (first
      | (go_at_call 69;with_reducible exact (Q1).out _)))))
   refine wpQuiet_nil ?_;rintro w1 ⟨⟨_,hk_w1⟩,rfl⟩;clear kga Q1 HLd;have Hk1:=jX hk_w1;have HkX:=jX (HkW.out.tz hk_w1);cases r with
   | true =>
    go_wp2_with fail;go_ret
    exact ⟨by rw [yhD l y (k+1) Hnx.out];rfl,HkX.out⟩
   | false =>
    go_wp2_with fail;go_roundw
    case rel=>exact ⟨k+1,by omega,congrArg (Value.int .i64) (by omega),Hnx.out,HKr.out.tz Hk1.out⟩
    case measure=>simp [intOf];omega
  obtain rfl:k=l.length:=by omega
  rw [List.take_length] at Hno;clear HIN;go_wp2_with fail;go_ret
  exact ⟨by rw [Hno.out];rfl,HkW.out⟩
theorem cmp_le (x y:K):decide (cmpQ x.1 y.1≤0)=true↔x≤y:=by
 rcases K.tri x y with ⟨h,g⟩|⟨h,g⟩|⟨h,g⟩<;>rw [h]<;>simp<;>grind
open Classical in
theorem yjA (l:List (Iv K)) (y z:K) (k:Nat) (hk:k<l.length) (h:ybt (l.take k) y z=false):ybt (l.take (k+1)) y z=(decide (cmpQ l[k].f.pt.1 y.1≤0)&&decide (cmpQ z.1 l[k].l.pt.1≤0)):=by
 rw [List.take_succ_eq_append_getElem hk];unfold ybt at *;rw [List.any_append,h];simp only [List.any_cons,List.any_nil,Bool.or_false,Bool.false_or];rw [Bool.eq_iff_iff,decide_eq_true_iff,Bool.and_eq_true,cmp_le,cmp_le]
theorem ycs (l:List (Iv K)) (y z:K) (k:Nat) (h:ybt (l.take k) y z=true):ybt l y z=true:=by
 unfold ybt at *;rw [List.any_eq_true] at *;obtain⟨i,hi,h⟩:=h;exact ⟨i,List.mem_of_mem_take hi,h⟩
theorem spans_c (l:List (Iv K)) (y z:K) (w:World) (sv:Value) (hr:IvR w sv l) (h9:l.length≤1000000000) :
  Calls prog 39 #[sv,kv y,kv z] w fun e w'=>e = .returned (.bool (ybt l y z))∧Keep [] w w':=by
 have HR:=jX hr;have HC1:=jX (fun x w=>yfa x y w);have HC2:=jX (fun x w=>yfa z x w);have HX:=jX (fun w g=>@kw_k w g y 36);have HY:=jX (fun w g=>@kw_k w g z 36);obtain⟨ao,ac,rfl,_⟩:=hr.form;clear hr;unfold kv at *;generalize kC y=X at *;generalize kC z=Y at *;go_enter func39,ntmps39
 go_wp2_with fail;obtain⟨W,ga,gb,hW,ega,egb,Bga,Bgb,hga,hgb,hgW,HkW⟩:=al2h w (.cells X 36) (.cells Y 36);rw [← hW];try rw [egb]
 try rw [ega]
 clear hW ega egb;go_wp2_with fail;go_loopw [7] (fun c wr=>∃ k:Nat,k≤l.length∧c = .int .i64 (k:Int)∧ybt (l.take k) y z=false∧Keep [] W wr) (fun c _=>l.length-(intOf c).toNat)
 case atStart=>exact ⟨0,Nat.zero_le _,rfl,rfl,Keep.refl _ _⟩
 case round =>
  obtain⟨k,hk,rfl,hno,hkeep⟩:=hrel;have Hno:=jX hno;have HKr:=jX hkeep;clear hno;replace Bga:=jH hkeep Bga;replace Bgb:=jH hkeep Bgb;replace HkW:=jX (HkW.out.tz hkeep);clear hkeep;by_cases hlt:k<l.length
  ·obtain⟨g,o,rfl,hg,hat⟩:=IvR.elem (HR.out.later HkW.out) k hlt
   have Hnx:=jX (yjA l y z k hlt Hno.out);obtain⟨i,hi⟩:∃ i,l[k]=i:=⟨_,rfl⟩;rw [hi] at Hnx hat;have ha:=yeW i.f.pt y;have hb:=yeW z i.l.pt;have H1:=jX (HC1.out i.f.pt);have H2:=jX (HC2.out i.l.pt);obtain⟨p,hp⟩:∃ p,o+k*20=p:=⟨_,rfl⟩;rw [hp] at hat;have HLf:=jX (hat.ldf hg);have HLt:=jX (hat.ldt hg);have HLx:=jX (HX.out _ _ Bga.out);have HLy:=jX (HY.out _ _ Bgb.out);generalize cmpQ i.f.pt.1 y.1=a at *;generalize cmpQ z.1 i.l.pt.1=b at *;unfold kv at *;generalize kC i.f.pt=F at *;generalize kC i.l.pt=T at *;clear hi hat HC1 HC2 HX HY;rcases ha with rfl|rfl|rfl
   ·have Q1:Hid (∀ m:KW wr,Calls prog 38 #[.agg F,.agg X] (Wk wr m) fun e w'=>e = .returned (.int .i64 (-1))∧∃ m,w'=Wk wr m):=fun m=>qk m (H1.out _)
    clear H1;rcases hb with rfl|rfl|rfl
    ·have Q2:Hid (∀ m:KW wr,Calls prog 38 #[.agg Y,.agg T] (Wk wr m) fun e w'=>e = .returned (.int .i64 (-1))∧∃ m,w'=Wk wr m):=fun m=>qk m (H2.out _)
     clear H2;go_wp2_with fail;refine yac (by kernel_rfl) (by kernel_rfl) ?_
     repeat (first
      | go_big_quiet_skip
      | (go_big_quiet_want;first
       | (refine yai _ _ _ (.agg F) rfl rfl (by rintro _ ⟨m,rfl⟩;exact HLf.out m) ?_;go_simp;go_big_quiet_on)|(refine yai _ _ _ (.agg T) rfl rfl (by rintro _ ⟨m,rfl⟩;exact HLt.out m) ?_;go_simp;go_big_quiet_on)|(refine yai _ _ _ (.agg X) rfl rfl (by rintro _ ⟨m,rfl⟩;exact HLx.out m) ?_;go_simp;go_big_quiet_on)|(refine yai _ _ _ (.agg Y) rfl rfl (by rintro _ ⟨m,rfl⟩;exact HLy.out m) ?_;go_simp;go_big_quiet_on)
       | (go_big_quiet_op;first|go_big_quiet_on|go_big_quiet_call (first
        | (go_at_call 38;with_reducible exact (Q1).out _)|(go_at_call 38;with_reducible exact (Q2).out _)))))
     refine wpQuiet_nil ?_;rintro w1 ⟨⟨_,hk_w1⟩,rfl⟩;clear Q1 Q2 HLf HLt HLx HLy;have Hk1:=jX hk_w1;have HkX:=jX (HkW.out.tz hk_w1);clear hk_w1;go_wp2_with fail;go_ret
     exact ⟨by rw [ycs l y z (k+1) Hnx.out];rfl,HkX.out⟩
    ·have Q2:Hid (∀ m:KW wr,Calls prog 38 #[.agg Y,.agg T] (Wk wr m) fun e w'=>e = .returned (.int .i64 0)∧∃ m,w'=Wk wr m):=fun m=>qk m (H2.out _)
     clear H2;go_wp2_with fail;refine yac (by kernel_rfl) (by kernel_rfl) ?_
     repeat (first
      | go_big_quiet_skip
      | (go_big_quiet_want;first
       | (refine yai _ _ _ (.agg F) rfl rfl (by rintro _ ⟨m,rfl⟩;exact HLf.out m) ?_;go_simp;go_big_quiet_on)|(refine yai _ _ _ (.agg T) rfl rfl (by rintro _ ⟨m,rfl⟩;exact HLt.out m) ?_;go_simp;go_big_quiet_on)|(refine yai _ _ _ (.agg X) rfl rfl (by rintro _ ⟨m,rfl⟩;exact HLx.out m) ?_;go_simp;go_big_quiet_on)|(refine yai _ _ _ (.agg Y) rfl rfl (by rintro _ ⟨m,rfl⟩;exact HLy.out m) ?_;go_simp;go_big_quiet_on)
       | (go_big_quiet_op;first|go_big_quiet_on|go_big_quiet_call (first
        | (go_at_call 38;with_reducible exact (Q1).out _)|(go_at_call 38;with_reducible exact (Q2).out _)))))
     refine wpQuiet_nil ?_;rintro w1 ⟨⟨_,hk_w1⟩,rfl⟩;clear Q1 Q2 HLf HLt HLx HLy;have Hk1:=jX hk_w1;have HkX:=jX (HkW.out.tz hk_w1);clear hk_w1;go_wp2_with fail;go_ret
     exact ⟨by rw [ycs l y z (k+1) Hnx.out];rfl,HkX.out⟩
    have Q2:Hid (∀ m:KW wr,Calls prog 38 #[.agg Y,.agg T] (Wk wr m) fun e w'=>e = .returned (.int .i64 1)∧∃ m,w'=Wk wr m):=fun m=>qk m (H2.out _);clear H2;go_wp2_with fail;refine yac (by kernel_rfl) (by kernel_rfl) ?_
    repeat (first
     | go_big_quiet_skip
     | (go_big_quiet_want;first
      | (refine yai _ _ _ (.agg F) rfl rfl (by rintro _ ⟨m,rfl⟩;exact HLf.out m) ?_;go_simp;go_big_quiet_on)|(refine yai _ _ _ (.agg T) rfl rfl (by rintro _ ⟨m,rfl⟩;exact HLt.out m) ?_;go_simp;go_big_quiet_on)|(refine yai _ _ _ (.agg X) rfl rfl (by rintro _ ⟨m,rfl⟩;exact HLx.out m) ?_;go_simp;go_big_quiet_on)|(refine yai _ _ _ (.agg Y) rfl rfl (by rintro _ ⟨m,rfl⟩;exact HLy.out m) ?_;go_simp;go_big_quiet_on)
      | (go_big_quiet_op;first|go_big_quiet_on|go_big_quiet_call (first
       | (go_at_call 38;with_reducible exact (Q1).out _)|(go_at_call 38;with_reducible exact (Q2).out _)))))
    refine wpQuiet_nil ?_;rintro w1 ⟨⟨_,hk_w1⟩,rfl⟩;clear Q1 Q2 HLf HLt HLx HLy;have Hk1:=jX hk_w1;have HkX:=jX (HkW.out.tz hk_w1);clear hk_w1;go_wp2_with fail;go_roundw
    case rel=>exact ⟨k+1,by omega,congrArg (Value.int .i64) (by omega),Hnx.out,HKr.out.tz Hk1.out⟩
    case measure=>simp [intOf];omega
   ·have Q1:Hid (∀ m:KW wr,Calls prog 38 #[.agg F,.agg X] (Wk wr m) fun e w'=>e = .returned (.int .i64 0)∧∃ m,w'=Wk wr m):=fun m=>qk m (H1.out _)
    clear H1;rcases hb with rfl|rfl|rfl
    ·have Q2:Hid (∀ m:KW wr,Calls prog 38 #[.agg Y,.agg T] (Wk wr m) fun e w'=>e = .returned (.int .i64 (-1))∧∃ m,w'=Wk wr m):=fun m=>qk m (H2.out _)
     clear H2;go_wp2_with fail;refine yac (by kernel_rfl) (by kernel_rfl) ?_
     repeat (first
      | go_big_quiet_skip
      | (go_big_quiet_want;first
       | (refine yai _ _ _ (.agg F) rfl rfl (by rintro _ ⟨m,rfl⟩;exact HLf.out m) ?_;go_simp;go_big_quiet_on)|(refine yai _ _ _ (.agg T) rfl rfl (by rintro _ ⟨m,rfl⟩;exact HLt.out m) ?_;go_simp;go_big_quiet_on)|(refine yai _ _ _ (.agg X) rfl rfl (by rintro _ ⟨m,rfl⟩;exact HLx.out m) ?_;go_simp;go_big_quiet_on)|(refine yai _ _ _ (.agg Y) rfl rfl (by rintro _ ⟨m,rfl⟩;exact HLy.out m) ?_;go_simp;go_big_quiet_on)
       | (go_big_quiet_op;first|go_big_quiet_on|go_big_quiet_call (first
        | (go_at_call 38;with_reducible exact (Q1).out _)|(go_at_call 38;with_reducible exact (Q2).out _)))))
     refine wpQuiet_nil ?_;rintro w1 ⟨⟨_,hk_w1⟩,rfl⟩;clear Q1 Q2 HLf HLt HLx HLy;have Hk1:=jX hk_w1;have HkX:=jX (HkW.out.tz hk_w1);clear hk_w1;go_wp2_with fail;go_ret
     exact ⟨by rw [ycs l y z (k+1) Hnx.out];rfl,HkX.out⟩
    ·have Q2:Hid (∀ m:KW wr,Calls prog 38 #[.agg Y,.agg T] (Wk wr m) fun e w'=>e = .returned (.int .i64 0)∧∃ m,w'=Wk wr m):=fun m=>qk m (H2.out _)
     clear H2;go_wp2_with fail;refine yac (by kernel_rfl) (by kernel_rfl) ?_
     repeat (first
      | go_big_quiet_skip
      | (go_big_quiet_want;first
       | (refine yai _ _ _ (.agg F) rfl rfl (by rintro _ ⟨m,rfl⟩;exact HLf.out m) ?_;go_simp;go_big_quiet_on)|(refine yai _ _ _ (.agg T) rfl rfl (by rintro _ ⟨m,rfl⟩;exact HLt.out m) ?_;go_simp;go_big_quiet_on)|(refine yai _ _ _ (.agg X) rfl rfl (by rintro _ ⟨m,rfl⟩;exact HLx.out m) ?_;go_simp;go_big_quiet_on)|(refine yai _ _ _ (.agg Y) rfl rfl (by rintro _ ⟨m,rfl⟩;exact HLy.out m) ?_;go_simp;go_big_quiet_on)
       | (go_big_quiet_op;first|go_big_quiet_on|go_big_quiet_call (first
        | (go_at_call 38;with_reducible exact (Q1).out _)|(go_at_call 38;with_reducible exact (Q2).out _)))))
     refine wpQuiet_nil ?_;rintro w1 ⟨⟨_,hk_w1⟩,rfl⟩;clear Q1 Q2 HLf HLt HLx HLy;have Hk1:=jX hk_w1;have HkX:=jX (HkW.out.tz hk_w1);clear hk_w1;go_wp2_with fail;go_ret
     exact ⟨by rw [ycs l y z (k+1) Hnx.out];rfl,HkX.out⟩
    have Q2:Hid (∀ m:KW wr,Calls prog 38 #[.agg Y,.agg T] (Wk wr m) fun e w'=>e = .returned (.int .i64 1)∧∃ m,w'=Wk wr m):=fun m=>qk m (H2.out _);clear H2;go_wp2_with fail;refine yac (by kernel_rfl) (by kernel_rfl) ?_
    repeat (first
     | go_big_quiet_skip
     | (go_big_quiet_want;first
      | (refine yai _ _ _ (.agg F) rfl rfl (by rintro _ ⟨m,rfl⟩;exact HLf.out m) ?_;go_simp;go_big_quiet_on)|(refine yai _ _ _ (.agg T) rfl rfl (by rintro _ ⟨m,rfl⟩;exact HLt.out m) ?_;go_simp;go_big_quiet_on)|(refine yai _ _ _ (.agg X) rfl rfl (by rintro _ ⟨m,rfl⟩;exact HLx.out m) ?_;go_simp;go_big_quiet_on)|(refine yai _ _ _ (.agg Y) rfl rfl (by rintro _ ⟨m,rfl⟩;exact HLy.out m) ?_;go_simp;go_big_quiet_on)
      | (go_big_quiet_op;first|go_big_quiet_on|go_big_quiet_call (first
       | (go_at_call 38;with_reducible exact (Q1).out _)|(go_at_call 38;with_reducible exact (Q2).out _)))))
    refine wpQuiet_nil ?_;rintro w1 ⟨⟨_,hk_w1⟩,rfl⟩;clear Q1 Q2 HLf HLt HLx HLy;have Hk1:=jX hk_w1;have HkX:=jX (HkW.out.tz hk_w1);clear hk_w1;go_wp2_with fail;go_roundw
    case rel=>exact ⟨k+1,by omega,congrArg (Value.int .i64) (by omega),Hnx.out,HKr.out.tz Hk1.out⟩
    case measure=>simp [intOf];omega
   have Q1:Hid (∀ m:KW wr,Calls prog 38 #[.agg F,.agg X] (Wk wr m) fun e w'=>e = .returned (.int .i64 1)∧∃ m,w'=Wk wr m):=fun m=>qk m (H1.out _);clear H1;have hr0:(decide ((1:Int)≤0)&&decide (b≤0))=false:=rfl;rw [hr0] at Hnx;have Q2:Hid (∀ m:KW wr,Calls prog 38 #[.agg Y,.agg T] (Wk wr m) fun e w'=>e = .returned (.int .i64 b)∧∃ m,w'=Wk wr m):=fun m=>qk m (H2.out _);clear H2 hr0;go_wp2_with fail;refine yac (by kernel_rfl) (by kernel_rfl) ?_
   repeat (first
    | go_big_quiet_skip
    | (go_big_quiet_want;first
     | (refine yai _ _ _ (.agg F) rfl rfl (by rintro _ ⟨m,rfl⟩;exact HLf.out m) ?_;go_simp;go_big_quiet_on)|(refine yai _ _ _ (.agg T) rfl rfl (by rintro _ ⟨m,rfl⟩;exact HLt.out m) ?_;go_simp;go_big_quiet_on)|(refine yai _ _ _ (.agg X) rfl rfl (by rintro _ ⟨m,rfl⟩;exact HLx.out m) ?_;go_simp;go_big_quiet_on)|(refine yai _ _ _ (.agg Y) rfl rfl (by rintro _ ⟨m,rfl⟩;exact HLy.out m) ?_;go_simp;go_big_quiet_on)
     | (go_big_quiet_op;first|go_big_quiet_on|go_big_quiet_call (first
      | (go_at_call 38;with_reducible exact (Q1).out _)|(go_at_call 38;with_reducible exact (Q2).out _)))))
   refine wpQuiet_nil ?_;rintro w1 ⟨⟨_,hk_w1⟩,rfl⟩;clear Q1 Q2 HLf HLt HLx HLy;have Hk1:=jX hk_w1;have HkX:=jX (HkW.out.tz hk_w1);clear hk_w1;go_wp2_with fail;go_roundw
   case rel=>exact ⟨k+1,by omega,congrArg (Value.int .i64) (by omega),Hnx.out,HKr.out.tz Hk1.out⟩
   case measure=>simp [intOf];omega
  obtain rfl:k=l.length:=by omega
  rw [List.take_length] at Hno;clear HC1 HC2 HX HY;go_wp2_with fail;go_ret
  exact ⟨by rw [Hno.out];rfl,HkW.out⟩
def decV (op:Int) (a b:Bool):Bool:=if op=1 then a || b else if op=2 then a&&b else a && !b
theorem ycR (op:Int):decV op false false=false:=by unfold decV;split<;>(try split)<;>rfl
theorem decide_c (op:Int) (h:op=1∨op=2∨op=3) (a b:Bool) (w:World) :
  Calls prog 91 #[.int .i64 op,.bool a,.bool b] w fun e w'=>e = .returned (.bool (decV op a b))∧Keep [] w w':=by
 rcases h with rfl|rfl|rfl<;>cases a<;>cases b
 all_goals
  go_enter func91,ntmps91
  go_wp2_with fail;go_ret
  exact ⟨rfl,Keep.refl _ _⟩
def yjh (a:Int) (o c:Bool):Bool:=decide (a<0) || (a == 0 && !o && !c)
theorem isIvV_iff (i:Iv K):yjh (cmpQ i.f.pt.1 i.l.pt.1) i.f.beh (!i.l.beh)=true↔i.f<i.l:=by
 unfold yjh;rw [Bd.lt_def];rcases K.tri i.f.pt i.l.pt with ⟨h,g⟩|⟨h,g⟩|⟨h,g⟩<;>rw [h]<;>cases i.f.beh<;>cases i.l.beh<;>simp<;>grind
theorem isiv_c (i:Iv K) (w:World) :
  Calls prog 135 #[iv i] w fun e w'=>e = .returned (.bool (yjh (cmpQ i.f.pt.1 i.l.pt.1) i.f.beh (!i.l.beh)))∧Keep [] w w':=by
 have H1:=jX (yfa i.f.pt i.l.pt);have ha:=yeW i.f.pt i.l.pt;generalize cmpQ i.f.pt.1 i.l.pt.1=a at *;rw [ybk];rw [yaI,yaI] at H1;generalize sgB (i.f.pt.1).p.num=f1 at *;generalize mgS (i.f.pt.1).p.num=f2 at *;generalize dnS (i.f.pt.1).p.den=f3 at *;generalize sgB (i.f.pt.1).r.num=f4 at *;generalize mgS (i.f.pt.1).r.num=f5 at *;generalize dnS (i.f.pt.1).r.den=f6 at *;generalize (i.f.pt.1).neg=f7 at *;generalize sgB (i.l.pt.1).p.num=t1 at *;generalize mgS (i.l.pt.1).p.num=t2 at *;generalize dnS (i.l.pt.1).p.den=t3 at *;generalize sgB (i.l.pt.1).r.num=t4 at *;generalize mgS (i.l.pt.1).r.num=t5 at *;generalize dnS (i.l.pt.1).r.den=t6 at *;generalize (i.l.pt.1).neg=t7 at *;generalize i.f.beh=o at *;generalize (!i.l.beh)=c at *;have done:∀ {r:Bool},r=yjh a o c→Calls prog 135 #[.agg #[.bool f1,.string f2,.bool false,.string f3,.bool f4,.string f5,.bool false,.string f6,.bool f7,.bool t1,.string t2,.bool false,.string t3,.bool t4,.string t5,.bool false,.string t6,.bool t7,.bool o,.bool c]] w (fun e w'=>e = .returned (.bool r)∧Keep [] w w')→Calls prog 135 #[.agg #[.bool f1,.string f2,.bool false,.string f3,.bool f4,.string f5,.bool false,.string f6,.bool f7,.bool t1,.string t2,.bool false,.string t3,.bool t4,.string t5,.bool false,.string t6,.bool t7,.bool o,.bool c]] w (fun e w'=>e = .returned (.bool (yjh a o c))∧Keep [] w w'):=fun h h2=>by rw [← h];exact h2
 rcases ha with rfl|rfl|rfl
 ·refine done (r:=true) rfl ?_
  clear done;go_enter func135,ntmps135
  go_wp2_with fail;obtain⟨W,ga,hW,ega,Bga,hga,hgW,HkW⟩:=al1h w (.cells #[.bool f1,.string f2,.bool false,.string f3,.bool f4,.string f5,.bool false,.string f6,.bool f7,.bool t1,.string t2,.bool false,.string t3,.bool t4,.string t5,.bool false,.string t6,.bool t7,.bool o,.bool c] 49);rw [← hW];try rw [ega]
  clear hW ega;obtain⟨pga,fga,lga⟩:=jQ Bga;go_wp2_with fail;refine (H1.out _).mono ?_;rintro e w1 ⟨rfl,hk_w1⟩;dsimp only;clear pga fga lga;replace Bga:=jH hk_w1 Bga;replace HkW:=jX (HkW.out.tz hk_w1);clear hk_w1;obtain⟨pga,fga,lga⟩:=jQ Bga;go_wp2_with fail;go_ret
  exact ⟨rfl,by repeat (first|(with_reducible exact HkW.out)|(refine Keep.sP ?_ _ _ _ (by omega))|(refine Keep.aP ?_ _)|(refine Keep.dP ?_))⟩
 ·cases o
  ·refine done (r:=!c) (by cases c<;>rfl) ?_
   clear done;cases c
   all_goals
    go_enter func135,ntmps135
    go_wp2_with fail;obtain⟨W,ga,hW,ega,Bga,hga,hgW,HkW⟩:=al1h w (.cells #[.bool f1,.string f2,.bool false,.string f3,.bool f4,.string f5,.bool false,.string f6,.bool f7,.bool t1,.string t2,.bool false,.string t3,.bool t4,.string t5,.bool false,.string t6,.bool t7,.bool false,.bool _] 49);rw [← hW];try rw [ega]
    clear hW ega;obtain⟨pga,fga,lga⟩:=jQ Bga;go_wp2_with fail;refine (H1.out _).mono ?_;rintro e w1 ⟨rfl,hk_w1⟩;dsimp only;clear pga fga lga;replace Bga:=jH hk_w1 Bga;replace HkW:=jX (HkW.out.tz hk_w1);clear hk_w1;obtain⟨pga,fga,lga⟩:=jQ Bga;go_wp2_with fail;go_ret
    exact ⟨rfl,by repeat (first|(with_reducible exact HkW.out)|(refine Keep.sP ?_ _ _ _ (by omega))|(refine Keep.aP ?_ _)|(refine Keep.dP ?_))⟩
  refine done (r:=false) rfl ?_;clear done;go_enter func135,ntmps135
  go_wp2_with fail;obtain⟨W,ga,hW,ega,Bga,hga,hgW,HkW⟩:=al1h w (.cells #[.bool f1,.string f2,.bool false,.string f3,.bool f4,.string f5,.bool false,.string f6,.bool f7,.bool t1,.string t2,.bool false,.string t3,.bool t4,.string t5,.bool false,.string t6,.bool t7,.bool true,.bool c] 49);rw [← hW];try rw [ega]
  clear hW ega;obtain⟨pga,fga,lga⟩:=jQ Bga;go_wp2_with fail;refine (H1.out _).mono ?_;rintro e w1 ⟨rfl,hk_w1⟩;dsimp only;clear pga fga lga;replace Bga:=jH hk_w1 Bga;replace HkW:=jX (HkW.out.tz hk_w1);clear hk_w1;obtain⟨pga,fga,lga⟩:=jQ Bga;go_wp2_with fail;go_ret
  exact ⟨rfl,by repeat (first|(with_reducible exact HkW.out)|(refine Keep.sP ?_ _ _ _ (by omega))|(refine Keep.aP ?_ _)|(refine Keep.dP ?_))⟩
 refine done (r:=false) rfl ?_;clear done;go_enter func135,ntmps135
 go_wp2_with fail;obtain⟨W,ga,hW,ega,Bga,hga,hgW,HkW⟩:=al1h w (.cells #[.bool f1,.string f2,.bool false,.string f3,.bool f4,.string f5,.bool false,.string f6,.bool f7,.bool t1,.string t2,.bool false,.string t3,.bool t4,.string t5,.bool false,.string t6,.bool t7,.bool o,.bool c] 49);rw [← hW];try rw [ega]
 clear hW ega;obtain⟨pga,fga,lga⟩:=jQ Bga;go_wp2_with fail;refine (H1.out _).mono ?_;rintro e w1 ⟨rfl,hk_w1⟩;dsimp only;clear pga fga lga;replace Bga:=jH hk_w1 Bga;replace HkW:=jX (HkW.out.tz hk_w1);clear hk_w1;obtain⟨pga,fga,lga⟩:=jQ Bga;go_wp2_with fail;go_ret
 exact ⟨rfl,by repeat (first|(with_reducible exact HkW.out)|(refine Keep.sP ?_ _ _ _ (by omega))|(refine Keep.aP ?_ _)|(refine Keep.dP ?_))⟩
section
open Classical
theorem combL_at {H:K→Bool} {S:K→K→Bool} {ends:List K} {k:Nat} (h:k<ends.length) (op:Bool) (out:List (Iv K)) :
  combL H S (ends.drop k) op out=if h2:k+1<ends.length then combL H S (ends.drop (k+1)) (S ends[k] ends[k+1]) (ydd (H ends[k]) (S ends[k] ends[k+1]) ends[k] ends[k+1] (ybh (H ends[k]) op ends[k] out)) else ybh (H ends[k]) op ends[k] out:=by
 rw [List.drop_eq_getElem_cons h];by_cases h2:k+1<ends.length
 ·rw [dif_pos h2,List.drop_eq_getElem_cons h2]
  rfl
 rw [dif_neg h2,List.drop_eq_nil_of_le (by omega)];rfl
theorem OE.lt {α:Type} {enc:α→List Value} {e:TypeId} {k:Nat} {w0 w:World} {v:Value} {l:List α} (h:OE enc e k w0 w v l):∀ g,v.ownBlock=some g→g<w.heap.size:=by
 intro g hg;rcases h.row.2 with ⟨rfl,_⟩|⟨g',cap,cur,rfl,hb,hgg,_⟩
 ·cases hg
 simp [Value.ownBlock] at hg;subst hg;exact yab hgg
theorem iv_b01r (f1 f4 f7 t1 t4 t7:Bool) (f2 f3 f5 f6 t2 t3 t5 t6:ByteArray):prog.built 49 [(0,.agg #[.bool f1,.string f2,.bool false,.string f3,.bool f4,.string f5,.bool false,.string f6,.bool f7]),(1,.agg #[.bool t1,.string t2,.bool false,.string t3,.bool t4,.string t5,.bool false,.string t6,.bool t7])]=some #[.bool f1,.string f2,.bool false,.string f3,.bool f4,.string f5,.bool false,.string f6,.bool f7,.bool t1,.string t2,.bool false,.string t3,.bool t4,.string t5,.bool false,.string t6,.bool t7,.bool false,.bool false]:=by kernel_rfl
theorem iv_b01 (x y:K):prog.built 49 [(0,kv x),(1,kv y)]=some (iC ⟨⟨x,false⟩,⟨y,true⟩⟩):=iv_b01r _ _ _ _ _ _ _ _ _ _ _ _ _ _
theorem iv_b0123 (x y:K):prog.built 49 [(0,kv x),(1,kv y),(2,.bool true),(3,.bool true)]=some (iC ⟨⟨x,true⟩,⟨y,false⟩⟩):=ygR ⟨x,true⟩ ⟨y,false⟩
theorem OI_.app2 {ty:TypeId} {w0 w:World} {v y:Value} {l m:List (Iv K)} (h:OI_ w0 w v l) {gt:Nat} (hne:∀ g,v.ownBlock=some g→g≠gt) (hm:0<m.length) (hy:IvR w y m) (hb:l.length+m.length≤1000000000) {o:Obj} (hg:w.heap[gt]? = some o) :
  ∃ v' w',(Builtin.append_ #[27,27] ty #[v,y]).run prog w = .ok v' w'∧OI_ w0 w' v' (l++m)∧w'.heap[gt]? = some o:=by
 obtain⟨v',w',hr,ho,_,hK⟩:=IvR.app (ty:=ty) h (.inr hm) hy hb;refine ⟨v',w',hr,ho,?_⟩;rcases hv:v.ownBlock with _|g
 ·exact (hK [] (fun g hg=>by rw [hv] at hg;cases hg)).heap hg (by simp)
 refine (hK [g] (fun x hx=>by rw [hv] at hx;injection hx with hx;simp [hx])).heap hg ?_;have:=hne g hv;simp;exact fun e=>this e.symm
theorem setCells_keep:∀ (w:World) (g o:Nat) (vs:List Value),Keep [g] w (w.setCells g o vs)
 | w,_,_,[]=>Keep.refl _ w
 | w,g,o,v :: r=>(Keep.setCell [g] w g o v (by simp)).trans (setCells_keep _ g (o+1) r) (by simp)
theorem combT_len {here op:Bool} {t:K} {out:List (Iv K)}:(ybh here op t out).length≤out.length+1:=by
 unfold ybh;cases op
 ·cases here<;>simp
 rw [if_pos rfl];rcases List.eq_nil_or_concat out with rfl|⟨r,i,rfl⟩
 ·simp [ygt]
 rw [List.concat_eq_append,yaN];simp
theorem combB_len {here btw:Bool} {t n:K} {out:List (Iv K)}:(ydd here btw t n out).length≤out.length+1:=by
 unfold ydd;split<;>simp
theorem combB_ne {here btw op:Bool} {t n:K} {out:List (Iv K)} (ho:op=true→out≠[]) (hb:btw=true):ydd here btw t n (ybh here op t out)≠[]:=by
 subst hb;unfold ydd;cases here
 ·simp
 simp only [Bool.not_true,Bool.and_false,Bool.false_eq_true,if_false];unfold ybh;cases op
 ·simp
 rw [if_pos rfl];rcases List.eq_nil_or_concat out with rfl|⟨r,i,rfl⟩
 ·exact absurd rfl (ho rfl)
 rw [List.concat_eq_append,yaN];simp
theorem yid (ev:Operand→Value) (w:World) (o:Oper) (ho:o.op = .alloc 36):(execOp ev o).run prog w = .ok (.value (.pointer (some ⟨w.heap.size,0,none⟩))) (w.alloc (.cells #[.bool false,.string ⟨#[]⟩,.bool false,.string ⟨#[]⟩,.bool false,.string ⟨#[]⟩,.bool false,.string ⟨#[]⟩,.bool false] 36)):=by
 unfold execOp;simp only [ho];go_simp
theorem combine_c (op:Int) (hop:op=1∨op=2∨op=3) (a b:List (Iv K)) (w:World) (sv tv:Value) (hr:IvR w sv a) (hs:IvR w tv b) (h9:a.length≤10000) (h8:b.length≤10000) :
  Calls prog 50 #[.int .i64 op,sv,tv] w fun e w'=>∃ v,e = .returned v∧IvR w' v (cells (decV op) a b (ybf (ptsL (a++b))))∧Keep [] w w':=by
 have HR:=jX hr;have HS:=jX hs;have HH1:=jX (fun y w (h:IvR w sv a)=>holds_c a y w sv h (by omega));have HH2:=jX (fun y w (h:IvR w tv b)=>holds_c b y w tv h (by omega));have HP1:=jX (fun y z w (h:IvR w sv a)=>spans_c a y z w sv h (by omega));have HP2:=jX (fun y z w (h:IvR w tv b)=>spans_c b y z w tv h (by omega));have HD:=jX (fun x y w=>decide_c op hop x y w);have HE:=jX (fun w v (h:IvR w v (a++b))=>ends_c (a++b) w v h (by simp;omega));obtain⟨ao,ac,rfl,_⟩:=hr.form;obtain⟨bo,bc,rfl,_⟩:=hs.form;clear hr hs;unfold cells
 have hlen:(ybf (ptsL (a++b))).length≤40000:=by
  have:=ydM (ptsL (a++b));rw [ybA] at this;simp at this;omega
 generalize ybf (ptsL (a++b))=ends at *;generalize hres:combL (fun t=>decV op (holds a t) (holds b t)) (fun t n=>decV op (ybt a t n) (ybt b t n)) ends false []=res at *;have HRes:=jX hres;clear hres;go_enter func50,ntmps50
 go_upto_region 1 with (fail)
 refine wp_region_lit ?_;obtain⟨ua,g0,e1,e2,hz0,ho⟩:=OI_.start w;refine yaq (by rfl) (yaE 27 0 #[] #[] _ rfl (by simp) (yiq _)) (fun K hK=>?_);rw [e1,e2];clear e1;go_simp;refine hK _ _ ?_;clear hK K;refine' yad (v:=_) (by rfl) (?ha) (fun K hK=>?ka)
 case ha=>(go_simp;try rfl)
 go_simp;refine hK _ _ ?_;clear hK K;obtain⟨v4,u4,hr4,ho4,hn4,_⟩:=IvR.app (ty:=27) ho (.inl (by simp [Value.ownBlock])) (HR.out.later ho.keep) (by simp;omega);refine yaq (by rfl) (yas (.tmp 16) (.tmp 17) 27 _ _ _ rfl rfl rfl hr4) (fun K hK=>?_);go_simp;refine hK _ _ ?_;clear hK K hr4;refine' yad (v:=_) (by rfl) (?hb) (fun K hK=>?kb)
 case hb=>(go_simp;try rfl)
 go_simp;refine hK _ _ ?_;clear hK K;obtain⟨v5,u5,hr5,ho5,hn5,_⟩:=IvR.app (ty:=27) ho4 (.inl hn4) (HS.out.later ho4.keep) (by simp;omega);refine yaq (by rfl) (yas (.tmp 18) (.tmp 19) 27 _ _ _ rfl rfl rfl hr5) (fun K hK=>?_);go_simp;refine hK _ _ ?_;clear hK K hr5;refine wpList_plain (by rfl) (fun K hK=>?_);refine yae 79 #[v5] (by go_simp) ?_;refine (HE.out _ _ (by simpa using ho5.read)).mono ?_;rintro e u6 ⟨v6,rfl,hv6,hk6⟩;refine ⟨_,rfl,?_⟩;go_simp;refine hK _ _ ?_;clear hK K;have HEn:=jX hv6;have HK0:=jX (ho5.keep.tz hk6);obtain⟨eo,ec,rfl,_⟩:=hv6.form;clear hv6 hk6 ho5 ho4 ho hn4 hn5 HE;go_wp2_with fail;go_loopw [8,9,10] (fun ov ob c wr=>∃ k:Nat,k≤ends.length∧c = .int .i64 (k:Int)∧∃ out o,ob = .bool o∧(o=true→out≠[])∧combL (fun t=>decV op (holds a t) (holds b t)) (fun t n=>decV op (ybt a t n) (ybt b t n)) (ends.drop k) o out=res∧out.length≤2*k∧OI_ u6 wr ov out) (fun _ _ c _=>ends.length-(intOf c).toNat)
 case atStart=>exact ⟨0,Nat.zero_le _,rfl,[],false,rfl,by simp,by simpa using HRes.out,by simp,OE.nil u6⟩
 case round =>
  obtain⟨k,hk,rfl,out,o,rfl,hne,hcomb,hol,hov⟩:=hrel;have HO:=jX hov;have HNe:=jX hne;have HLen:=jX hol;obtain⟨oo,oc,rfl⟩:=hov.form;clear hov hne hol;by_cases hlt:k<ends.length
  ·rw [combL_at hlt] at hcomb
   have HCo:=jX hcomb;clear hcomb;obtain⟨g,eo2,rfl,hg,hat⟩:=KR.elem HEn.out k hlt;obtain⟨t,ht⟩:∃ t,ends[k]=t:=⟨_,rfl⟩;rw [ht] at hat HCo;obtain⟨p,hp⟩:∃ p,eo2+k*9=p:=⟨_,rfl⟩;rw [hp] at hat;have HLt:=jX (yat wr g p t.1 (hat.keep' (HO.out.keep.block g hg (by simp))));have Hat:=jX hat;clear hat ht;go_upto_region 7 with (fail)
   refine wp_region_lit ?_;refine' yad (v:=_) (by rfl) (?hc) (fun K hK=>?kc)
   case hc=>(go_simp;try rfl)
   go_simp;refine hK _ _ ?_;clear hK K;refine' yad (v:=_) (by rfl) (?hd) (fun K hK=>?kd)
   case hd=>(go_simp;try rfl)
   go_simp;refine hK _ _ ?_;clear hK K;refine' yad (v:=_) (by rfl) (?he) (fun K hK=>?ke)
   case he=>(go_simp;try rfl)
   go_simp;refine hK _ _ ?_;clear hK K;refine yad (v:=kv t) (by rfl) (yak _ _ ⟨g,p,none⟩ _ rfl rfl HLt.out) (fun K hK=>?_);go_simp;refine hK _ _ ?_;clear hK K;obtain⟨w1,gt,e1,e2,bgt,hgt,_,hk1⟩:=al1 wr (.cells #[.bool false,.string ⟨#[]⟩,.bool false,.string ⟨#[]⟩,.bool false,.string ⟨#[]⟩,.bool false,.string ⟨#[]⟩,.bool false] 36);refine yaq (v:=.pointer (some ⟨wr.heap.size,0,none⟩)) (w':=wr.alloc (.cells #[.bool false,.string ⟨#[]⟩,.bool false,.string ⟨#[]⟩,.bool false,.string ⟨#[]⟩,.bool false,.string ⟨#[]⟩,.bool false] 36)) (by rfl) (yid _ _ _ rfl) (fun K hK=>?_);rw [← e1,e2];clear e1;go_simp;refine hK _ _ ?_;clear hK K;refine yam (by rfl) _ _ _ rfl gt (kC t) rfl rfl _ _ bgt (by exact k_size) (by rfl) (all_oneCell_toArray (yaS t.1)) (fun K hK=>?_);obtain⟨w2,e4,b4,k4⟩:=yal (cs:=kC t) bgt;rw [e4];go_simp;refine hK _ _ ?_;clear hK K e4;have Bgt:=jX b4;have HW2:=jX (show Keep [] wr w2 from hk1.trans k4 (by simp;omega))
   clear b4 k4 hk1 bgt;have HKw:=jX (HK0.out.tz (HO.out.keep.tz HW2.out));have HX:=jX (kw_k Bgt.out);have Q1:Hid (∀ m:KW w2,Calls prog 23 #[.slice ao a.length ac,.agg (kC t)] (Wk w2 m) fun e w'=>e = .returned (.bool (holds a t))∧∃ m,w'=Wk w2 m):=fun m=>qk m (HH1.out t _ (HR.out.later (HKw.out.tz m.k)));have Q2:Hid (∀ m:KW w2,Calls prog 23 #[.slice bo b.length bc,.agg (kC t)] (Wk w2 m) fun e w'=>e = .returned (.bool (holds b t))∧∃ m,w'=Wk w2 m):=fun m=>qk m (HH2.out t _ (HS.out.later (HKw.out.tz m.k)));have Q3:Hid (∀ m:KW w2,Calls prog 91 #[.int .i64 op,.bool (holds a t),.bool (holds b t)] (Wk w2 m) fun e w'=>e = .returned (.bool (decV op (holds a t) (holds b t)))∧∃ m,w'=Wk w2 m):=fun m=>qk m (HD.out _ _ _);generalize decV op (holds a t) (holds b t)=here at *;generalize holds a t=x1 at *;generalize holds b t=x2 at *;go_wp2_with fail;refine yac (by kernel_rfl) (by kernel_rfl) ?_
   repeat (first
    | go_big_quiet_skip
    | (go_big_quiet_want;first
     | (refine yai _ _ _ (.agg (kC t)) rfl rfl (by rintro _ ⟨m,rfl⟩;exact HX.out m) ?_;go_simp;go_big_quiet_on)
     | (go_big_quiet_op;first|go_big_quiet_on|go_big_quiet_call (first
      | (go_at_call 23;with_reducible exact (Q1).out _)|(go_at_call 23;with_reducible exact (Q2).out _)|(go_at_call 91;with_reducible exact (Q3).out _)))))
   refine wpQuiet_nil ?_;rintro w3 ⟨⟨_,hk_w3⟩,rfl⟩;clear HX Q1 Q2 Q3;have HW3:=jX (HW2.out.tz hk_w3);have Bgt:=jX (hk_w3.heap Bgt.out (by simp));clear hk_w3 HW2 HKw;have hbl:=OE.lt HO.out;have HBl:=jX (show ∀ g,(Value.slice oo out.length oc).ownBlock=some g→g≠gt from fun g hg=>by have:=hbl g hg;omega)
   clear hbl;have HO:=jX (HO.out.later HW3.out);obtain⟨ln,hln⟩:∃ ln,out.length=ln:=⟨_,rfl⟩;have HLn:=jX hln;rw [hln];have Hk9:ln≤1000000:=by have:=HLen.out;omega
   clear hln;go_upto_region 9 with (fail)
   go_cut [13] (fun zv wx=>wx=w3∧∃ z:Int,zv = .int .i64 z∧z=(ln:Int)-1)
   case first =>
    go_wp2_with fail;go_meet
    exact ⟨rfl,_,rfl,rfl⟩
   case rest =>
    obtain⟨rfl,z,rfl,hz⟩:=hcut;rename World=>w3;have HZ:=jX hz;clear hz;go_upto_block 2 with (fail)
    go_cut [8] (fun ov wx=>OI_ u6 wx ov (ybh here o t out)∧wx.heap[gt]? = some (.cells (kC t) 36))
    case first =>
     cases o with
     | true =>
      obtain⟨r,i,hri⟩:∃ r i,out=r++[i]:=by
       rcases List.eq_nil_or_concat out with h|⟨r,i,h⟩
       ·exact absurd h (HNe.out rfl)
       exact ⟨r,i,by rw [h,List.concat_eq_append]⟩
      subst hri;have HOl:=HO.out;have hlen1:(r++[i]).length=r.length+1:=by simp
      rw [hlen1] at HOl;obtain⟨g8,rfl,hg8,hg8u,hth,hth2⟩:=OI_.last HOl;have hne:g8≠gt:=HBl.out g8 rfl;have HG:=jX (OI_.setl HOl t);have HTh:=jX hth;have HTh2:=jX hth2;have HNe2:=jX (And.intro hne hg8);have hl1:ln=r.length+1:=by rw [← HLn.out];exact hlen1
      subst hl1;have hz1:z=(r.length:Int):=by have:=HZ.out;omega
      subst hz1;clear HOl hth hth2 hlen1 hne hg8 hg8u HO HNe HLen HBl HLn HZ;cases here with
      | true =>
       have HRes2:Hid (ybh true true t (r++[i])=r++[⟨i.f,⟨t,!false⟩⟩]):=by
        show ybh true true t (r++[i])=_
        unfold ybh;rw [if_pos rfl,yaN];rfl
       go_upto_region 11 with (fail)
       have hri:(r.length:Int)<(r.length:Int)+1:=by omega
       refine wp_region_lit ?_;refine' yad (v:=_) (by rfl) (?hs1false) (fun K hK=>?ks1false)
       case hs1false=>(go_simp;try rfl)
       go_simp;refine hK _ _ ?_;clear hK K;refine' yad (v:=_) (by rfl) (?hs2false) (fun K hK=>?ks2false)
       case hs2false=>(go_simp;try rfl)
       go_simp;refine hK _ _ ?_;clear hK K;refine' yad (v:=_) (by rfl) (?hs3false) (fun K hK=>?ks3false)
       case hs3false=>(go_simp;try rfl)
       go_simp;refine hK _ _ ?_;clear hK K;refine' yad (v:=_) (by rfl) (?hs4false) (fun K hK=>?ks4false)
       case hs4false=>(go_simp;try rfl)
       go_simp;refine hK _ _ ?_;clear hK K;refine yad (v:=kv t) (by rfl) (yak _ _ ⟨gt,0,none⟩ _ rfl rfl (yat _ _ _ _ (ycz Bgt.out))) (fun K hK=>?_);go_simp;refine hK _ _ ?_;clear hK K;refine' yad (v:=_) (by rfl) (?hs5false) (fun K hK=>?ks5false)
       case hs5false=>(go_simp;try rfl)
       go_simp;refine hK _ _ ?_;clear hK K;refine' yad (v:=_) (by rfl) (?hs6false) (fun K hK=>?ks6false)
       case hs6false=>(go_simp;try rfl)
       go_simp;refine hK _ _ ?_;clear hK K;refine ybP (by rfl) _ _ _ rfl g8 (r.length*20+9) (kC t) rfl rfl HTh.out (by exact k_size) (all_oneCell_toArray (yaS t.1)) (fun K hK=>?_);show K _ (w3.setCells g8 (r.length*20+9) (kcells t.1))
       have T2:=HTh2.out t;have G2:=HG.out false;have K2:=setCells_keep w3 g8 (r.length*20+9) (kcells t.1);generalize w3.setCells g8 (r.length*20+9) (kcells t.1)=wA at *;go_simp;refine hK _ _ ?_;clear hK K;refine' yad (v:=_) (by rfl) (?hs7false) (fun K hK=>?ks7false)
       case hs7false=>(go_simp;try rfl)
       go_simp;refine hK _ _ ?_;clear hK K;refine' yad (v:=_) (by rfl) (?hs8false) (fun K hK=>?ks8false)
       case hs8false=>(go_simp;try rfl)
       go_simp;refine hK _ _ ?_;clear hK K;refine ybZ (by rfl) _ _ _ rfl g8 (r.length*20+19) (.bool false) rfl rfl rfl T2 (by kernel_rfl) (fun K hK=>?_);have K3:=setCells_keep wA g8 (r.length*20+19) [.bool false];generalize wA.setCells g8 (r.length*20+19) [.bool false]=wB at *;go_simp;refine hK _ _ ?_;clear hK K;have HGb:=jX G2;have Hgk:=jX ((K2.trans K3 (by simp)).heap Bgt.out (by simp;exact fun h=>HNe2.out.1 h.symm));clear T2 G2 K2 K3;clear hri HG;go_wp2_with fail;go_meet
       exact ⟨by rw [HRes2.out];exact HGb.out,Hgk.out⟩
      | false =>
       have HRes2:Hid (ybh false true t (r++[i])=r++[⟨i.f,⟨t,!true⟩⟩]):=by
        show ybh false true t (r++[i])=_
        unfold ybh;rw [if_pos rfl,yaN];rfl
       go_upto_region 13 with (fail)
       have hri:(r.length:Int)<(r.length:Int)+1:=by omega
       refine wp_region_lit ?_;refine' yad (v:=_) (by rfl) (?hs1true) (fun K hK=>?ks1true)
       case hs1true=>(go_simp;try rfl)
       go_simp;refine hK _ _ ?_;clear hK K;refine' yad (v:=_) (by rfl) (?hs2true) (fun K hK=>?ks2true)
       case hs2true=>(go_simp;try rfl)
       go_simp;refine hK _ _ ?_;clear hK K;refine' yad (v:=_) (by rfl) (?hs3true) (fun K hK=>?ks3true)
       case hs3true=>(go_simp;try rfl)
       go_simp;refine hK _ _ ?_;clear hK K;refine' yad (v:=_) (by rfl) (?hs4true) (fun K hK=>?ks4true)
       case hs4true=>(go_simp;try rfl)
       go_simp;refine hK _ _ ?_;clear hK K;refine yad (v:=kv t) (by rfl) (yak _ _ ⟨gt,0,none⟩ _ rfl rfl (yat _ _ _ _ (ycz Bgt.out))) (fun K hK=>?_);go_simp;refine hK _ _ ?_;clear hK K;refine' yad (v:=_) (by rfl) (?hs5true) (fun K hK=>?ks5true)
       case hs5true=>(go_simp;try rfl)
       go_simp;refine hK _ _ ?_;clear hK K;refine' yad (v:=_) (by rfl) (?hs6true) (fun K hK=>?ks6true)
       case hs6true=>(go_simp;try rfl)
       go_simp;refine hK _ _ ?_;clear hK K;refine ybP (by rfl) _ _ _ rfl g8 (r.length*20+9) (kC t) rfl rfl HTh.out (by exact k_size) (all_oneCell_toArray (yaS t.1)) (fun K hK=>?_);show K _ (w3.setCells g8 (r.length*20+9) (kcells t.1))
       have T2:=HTh2.out t;have G2:=HG.out true;have K2:=setCells_keep w3 g8 (r.length*20+9) (kcells t.1);generalize w3.setCells g8 (r.length*20+9) (kcells t.1)=wA at *;go_simp;refine hK _ _ ?_;clear hK K;refine' yad (v:=_) (by rfl) (?hs7true) (fun K hK=>?ks7true)
       case hs7true=>(go_simp;try rfl)
       go_simp;refine hK _ _ ?_;clear hK K;refine' yad (v:=_) (by rfl) (?hs8true) (fun K hK=>?ks8true)
       case hs8true=>(go_simp;try rfl)
       go_simp;refine hK _ _ ?_;clear hK K;refine ybZ (by rfl) _ _ _ rfl g8 (r.length*20+19) (.bool true) rfl rfl rfl T2 (by kernel_rfl) (fun K hK=>?_);have K3:=setCells_keep wA g8 (r.length*20+19) [.bool true];generalize wA.setCells g8 (r.length*20+19) [.bool true]=wB at *;go_simp;refine hK _ _ ?_;clear hK K;have HGb:=jX G2;have Hgk:=jX ((K2.trans K3 (by simp)).heap Bgt.out (by simp;exact fun h=>HNe2.out.1 h.symm));clear T2 G2 K2 K3;clear hri HG;go_wp2_with fail;go_meet
       exact ⟨by rw [HRes2.out];exact HGb.out,Hgk.out⟩
     | false =>
      cases here with
      | true =>
       go_upto_region 15 with (fail)
       have HRes2:Hid (ybh true false t out=out++[⟨⟨t,false⟩,⟨t,true⟩⟩]):=rfl;refine wp_region_lit ?_;refine' yad (v:=_) (by rfl) (?hp1) (fun K hK=>?kp1)
       case hp1=>(go_simp;try rfl)
       go_simp;refine hK _ _ ?_;clear hK K;refine yad (v:=kv t) (by rfl) (yak _ _ ⟨gt,0,none⟩ _ rfl rfl (yat _ _ _ _ (ycz Bgt.out))) (fun K hK=>?_);go_simp;refine hK _ _ ?_;clear hK K;refine yad (v:=kv t) (by rfl) (yak _ _ ⟨gt,0,none⟩ _ rfl rfl (yat _ _ _ _ (ycz Bgt.out))) (fun K hK=>?_);go_simp;refine hK _ _ ?_;clear hK K;refine yad (v:=iv ⟨⟨t,false⟩,⟨t,true⟩⟩) (by rfl) (yar _ #[(0,.tmp 71),(1,.tmp 72)] #[(0,kv t),(1,kv t)] _ rfl (by simp only [List.map_toArray,List.map_cons,List.map_nil];rfl) (iv_b01 t t)) (fun K hK=>?_);go_simp;refine hK _ _ ?_;clear hK K;obtain⟨ub,gy,e3,e4,hz1,hkx,hx⟩:=IvR.single ⟨⟨t,false⟩,⟨t,true⟩⟩ w3;refine yaq (v:=.slice (some ⟨w3.heap.size,0,none⟩) 1 1) (by rfl) (yaE 27 1 #[(0,.tmp 73)] #[(0,iv ⟨⟨t,false⟩,⟨t,true⟩⟩)] _ rfl (by simp only [List.map_toArray,List.map_cons,List.map_nil];rfl) (ybr _ _)) (fun K hK=>?_);rw [e3,e4];clear e3;go_simp;refine hK _ _ ?_;clear hK K;obtain⟨v9,u9',hr9,ho9,hgt9⟩:=OI_.app2 (ty:=27) (HO.out.later hkx) HBl.out (by simp) hx (by rw [HLn.out];simp;omega) (hkx.heap Bgt.out (by simp));rw [HLn.out] at hr9;refine yaq (by rfl) (yas (.tmp 70) (.tmp 74) 27 _ _ _ rfl rfl rfl hr9) (fun K hK=>?_);go_simp;refine hK _ _ ?_;clear hK K hr9 hx hkx;have HO9:=jX ho9;have Hgt9:=jX hgt9;clear ho9 hgt9;go_wp2_with fail;go_meet
       exact ⟨by rw [HRes2.out];exact HO9.out,Hgt9.out⟩
      | false =>
       have HRes2:Hid (ybh false false t out=out):=rfl;go_wp2_with fail;go_meet
       exact ⟨by rw [HRes2.out,← HLn.out];exact HO.out,Bgt.out⟩
    case rest =>
     obtain⟨hov2,hgt2⟩:=hcut;have HO2:=jX hov2;have Bgt:=jX hgt2;have HLc:=jX (Nat.le_trans (combT_len (here:=here) (op:=o) (t:=t) (out:=out)) (Nat.succ_le_succ HLen.out));have HNb:=jX (fun (n:K) (btw:Bool) (hb:btw=true)=>combB_ne (here:=here) (t:=t) (n:=n) HNe.out hb);have HLb:=jX (fun (n:K) (btw:Bool)=>combB_len (here:=here) (btw:=btw) (t:=t) (n:=n) (out:=ybh here o t out));obtain⟨oo2,oc2,rfl⟩:=hov2.form;clear hov2 hgt2 HLen HNe HLn HZ HO HBl;generalize ybh here o t out=out2 at *;by_cases h2:k+1<ends.length
     ·rw [dif_pos h2] at HCo
      obtain⟨g',eo',heq,hg',hat'⟩:=KR.elem HEn.out (k+1) h2;injection heq with heq;injection heq with hq1 hq2;subst hq1 hq2;obtain⟨nx,hnx⟩:∃ nx,ends[k+1]=nx:=⟨_,rfl⟩;rw [hnx] at hat' HCo;obtain⟨p',hp'⟩:∃ p',eo2+(k+1)*9=p':=⟨_,rfl⟩;rw [hp'] at hat';have HLn:=jX (yat wc g p' nx.1 (hat'.keep' (HO2.out.keep.block g hg (by simp))));have hne80:((k:Int)+1 == (ends.length:Int))=false:=by rw [beq_eq_false_iff_ne];omega
      clear hat' hnx;go_upto_region 17 with (fail)
      clear hne80;have hki1:(k:Int)+1<(ends.length:Int):=by omega
      have hki2:IntKind.i64.wrap ((k:Int)+1)=(k:Int)+1:=IntWalk.i64_in _ (by omega);have hki3:0≤(k:Int)+1:=by omega
      have hki4:((k:Int)+1).toNat=k+1:=by omega
      refine wp_region_lit ?_;refine' yad (v:=_) (by rfl) (?hq1) (fun K hK=>?kq1)
      case hq1=>(go_simp;try rfl)
      go_simp;refine hK _ _ ?_;clear hK K;refine' yad (v:=_) (by rfl) (?hq2) (fun K hK=>?kq2)
      case hq2=>(go_simp;try rfl)
      go_simp;refine hK _ _ ?_;clear hK K;refine' yad (v:=_) (by rfl) (?hq3) (fun K hK=>?kq3)
      case hq3=>(go_simp;try rfl)
      go_simp;refine hK _ _ ?_;clear hK K;refine' yad (v:=_) (by rfl) (?hq4) (fun K hK=>?kq4)
      case hq4=>(go_simp;try rfl)
      go_simp;refine hK _ _ ?_;clear hK K;refine yad (v:=kv nx) (by rfl) (yak _ _ ⟨g,p',none⟩ _ rfl rfl HLn.out) (fun K hK=>?_);go_simp;refine hK _ _ ?_;clear hK K;obtain⟨w4,gn,e1,e2,bgn,hgn,_,hk1⟩:=al1 wc (.cells #[.bool false,.string ⟨#[]⟩,.bool false,.string ⟨#[]⟩,.bool false,.string ⟨#[]⟩,.bool false,.string ⟨#[]⟩,.bool false] 36);refine yaq (v:=.pointer (some ⟨wc.heap.size,0,none⟩)) (w':=wc.alloc (.cells #[.bool false,.string ⟨#[]⟩,.bool false,.string ⟨#[]⟩,.bool false,.string ⟨#[]⟩,.bool false,.string ⟨#[]⟩,.bool false] 36)) (by rfl) (yid _ _ _ rfl) (fun K hK=>?_);rw [← e1,e2];clear e1;go_simp;refine hK _ _ ?_;clear hK K hki1 hki2 hki3 hki4;refine yam (by rfl) _ _ _ rfl gn (kC nx) rfl rfl _ _ bgn (by exact k_size) (by rfl) (all_oneCell_toArray (yaS nx.1)) (fun K hK=>?_);obtain⟨w5,e4,b4,k4⟩:=yal (cs:=kC nx) bgn;rw [e4];go_simp;refine hK _ _ ?_;clear hK K e4;have Bgn:=jX b4;have HW5:=jX (show Keep [] wc w5 from hk1.trans k4 (by simp;omega))
      have Bgt:=jX (HW5.out.heap Bgt.out (by simp));have HO2:=jX (HO2.out.later HW5.out);clear b4 k4 hk1 bgn HLn HW5 hgn;have HKw:=jX (HK0.out.tz HO2.out.keep);have HX:=jX (kw_k Bgt.out);have HY:=jX (kw_k Bgn.out);have Q1:Hid (∀ m:KW w5,Calls prog 39 #[.slice ao a.length ac,.agg (kC t),.agg (kC nx)] (Wk w5 m) fun e w'=>e = .returned (.bool (ybt a t nx))∧∃ m,w'=Wk w5 m):=fun m=>qk m (HP1.out t nx _ (HR.out.later (HKw.out.tz m.k)));have Q2:Hid (∀ m:KW w5,Calls prog 39 #[.slice bo b.length bc,.agg (kC t),.agg (kC nx)] (Wk w5 m) fun e w'=>e = .returned (.bool (ybt b t nx))∧∃ m,w'=Wk w5 m):=fun m=>qk m (HP2.out t nx _ (HS.out.later (HKw.out.tz m.k)));have Q3:Hid (∀ m:KW w5,Calls prog 91 #[.int .i64 op,.bool (ybt a t nx),.bool (ybt b t nx)] (Wk w5 m) fun e w'=>e = .returned (.bool (decV op (ybt a t nx) (ybt b t nx)))∧∃ m,w'=Wk w5 m):=fun m=>qk m (HD.out _ _ _);generalize decV op (ybt a t nx) (ybt b t nx)=btw at *;generalize ybt a t nx=y1 at *;generalize ybt b t nx=y2 at *;go_wp2_with fail;refine yac (by kernel_rfl) (by kernel_rfl) ?_
      repeat (first
       | go_big_quiet_skip
       | (go_big_quiet_want;first
        | (refine yai _ _ _ (.agg (kC t)) rfl rfl (by rintro _ ⟨m,rfl⟩;exact HX.out m) ?_;go_simp;go_big_quiet_on)|(refine yai _ _ _ (.agg (kC nx)) rfl rfl (by rintro _ ⟨m,rfl⟩;exact HY.out m) ?_;go_simp;go_big_quiet_on)
        | (go_big_quiet_op;first|go_big_quiet_on|go_big_quiet_call (first
         | (go_at_call 39;with_reducible exact (Q1).out _)|(go_at_call 39;with_reducible exact (Q2).out _)|(go_at_call 91;with_reducible exact (Q3).out _)))))
      refine wpQuiet_nil ?_;rintro w6 ⟨⟨_,hk_w6⟩,rfl⟩;clear HX HY Q1 Q2 Q3 HKw;have HO2:=jX (HO2.out.later hk_w6);have Bgt:=jX (hk_w6.heap Bgt.out (by simp));have Bgn:=jX (hk_w6.heap Bgn.out (by simp));have HNb:=jX (HNb.out nx btw);have HLb:=jX (HLb.out nx btw);clear hk_w6;cases btw with
      | true =>
       cases here with
       | true =>
        go_wp2_with fail;go_roundw
        case rel=>exact ⟨k+1,by omega,congrArg (Value.int .i64) (by omega),out2,true,rfl,HNb.out,HCo.out,by have:=HLc.out;have:=HLb.out;(try simp);omega,HO2.out⟩
        case measure=>simp [intOf];omega
       | false =>
        go_upto_region 20 with (fail)
        refine wp_region_lit ?_;refine' yad (v:=_) (by rfl) (?hr1) (fun K hK=>?kr1)
        case hr1=>(go_simp;try rfl)
        go_simp;refine hK _ _ ?_;clear hK K;refine yad (v:=kv t) (by rfl) (yak _ _ ⟨gt,0,none⟩ _ rfl rfl (yat _ _ _ _ (ycz Bgt.out))) (fun K hK=>?_);go_simp;refine hK _ _ ?_;clear hK K;refine yad (v:=kv nx) (by rfl) (yak _ _ ⟨gn,0,none⟩ _ rfl rfl (yat _ _ _ _ (ycz Bgn.out))) (fun K hK=>?_);go_simp;refine hK _ _ ?_;clear hK K;refine yad (v:=iv ⟨⟨t,true⟩,⟨nx,false⟩⟩) (by rfl) (yar _ #[(0,.tmp 102),(1,.tmp 103),(2,.const (.bool true)),(3,.const (.bool true))] #[(0,kv t),(1,kv nx),(2,.bool true),(3,.bool true)] _ rfl (by simp only [List.map_toArray,List.map_cons,List.map_nil];rfl) (iv_b0123 t nx)) (fun K hK=>?_);go_simp;refine hK _ _ ?_;clear hK K;obtain⟨ub,gy,e3,e4,hz1,hkx,hx⟩:=IvR.single ⟨⟨t,true⟩,⟨nx,false⟩⟩ w6;refine yaq (v:=.slice (some ⟨w6.heap.size,0,none⟩) 1 1) (by rfl) (yaE 27 1 #[(0,.tmp 104)] #[(0,iv ⟨⟨t,true⟩,⟨nx,false⟩⟩)] _ rfl (by simp only [List.map_toArray,List.map_cons,List.map_nil];rfl) (ybr _ _)) (fun K hK=>?_);rw [e3,e4];clear e3;go_simp;refine hK _ _ ?_;clear hK K;obtain⟨v9,u9',hr9,ho9,_,_⟩:=IvR.app (ty:=27) (HO2.out.later hkx) (.inr (by simp)) hx (by have:=HLc.out;simp;omega);refine yaq (by rfl) (yas (.tmp 101) (.tmp 105) 27 _ _ _ rfl rfl rfl hr9) (fun K hK=>?_);go_simp;refine hK _ _ ?_;clear hK K hr9 hx hkx;have HO9:=jX ho9;obtain⟨no,nc,rfl⟩:=ho9.form;clear ho9;go_wp2_with fail;go_roundw
        case rel=>exact ⟨k+1,by omega,congrArg (Value.int .i64) (by omega),(out2++([⟨⟨t,true⟩,⟨nx,false⟩⟩]:List (Iv K))),true,rfl,HNb.out,HCo.out,by have:=HLc.out;have:=HLb.out;(try simp);omega,HO9.out⟩
        case measure=>simp [intOf];omega
      | false =>
       cases here with
       | true =>
        go_wp2_with fail;go_roundw
        case rel=>exact ⟨k+1,by omega,congrArg (Value.int .i64) (by omega),out2,false,rfl,HNb.out,HCo.out,by have:=HLc.out;have:=HLb.out;(try simp);omega,HO2.out⟩
        case measure=>simp [intOf];omega
       | false =>
        go_wp2_with fail;go_roundw
        case rel=>exact ⟨k+1,by omega,congrArg (Value.int .i64) (by omega),out2,false,rfl,HNb.out,HCo.out,by have:=HLc.out;have:=HLb.out;(try simp);omega,HO2.out⟩
        case measure=>simp [intOf];omega
     rw [dif_neg h2] at HCo;have hne80:((k:Int)+1 == (ends.length:Int))=true:=by rw [beq_iff_eq];omega
     go_wp2_with fail;go_ret
     exact ⟨_,rfl,by rw [← HCo.out];exact HO2.out.read,HK0.out.tz HO2.out.keep⟩
  have hd:ends.drop k=[]:=List.drop_eq_nil_of_le (by omega);rw [hd] at hcomb;have hfin:out=res:=hcomb;have HF:=jX hfin;clear hd hcomb hfin;go_wp2_with fail;go_ret
  exact ⟨_,rfl,by rw [← HF.out];exact HO.out.read,HK0.out.tz HO.out.keep⟩
end
end Go.Proofs.YtejegogbhpmgfaaGreatDoor
