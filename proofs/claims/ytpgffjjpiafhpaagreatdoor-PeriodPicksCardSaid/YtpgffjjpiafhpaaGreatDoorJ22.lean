/- Parts of a proof: Pk Sq Ti Ss Sy. -/
import Derived.Lib.ReflectliteSwap
import Derived.Great.BuildSlice
import Derived.Test.YtpgffjjpiafhpaaGreatDoorJ21
import Derived.Test.YtpgffjjpiafhpaaGreatDoorJ16
import Derived.Test.YtpgffjjpiafhpaaGreatDoorJ08
set_option linter.unusedVariables false
set_option linter.unusedSimpArgs false
set_option maxRecDepth 100000
set_option maxHeartbeats 8000000
namespace Go.Proofs.YtpgffjjpiafhpaaGreatDoor
open Go.RowKit Tryz
abbrev K:={x:Qn // x.Ok∧FitR 100000 x}
instance:LT K:=⟨fun x y=>Lt x.1 y.1⟩
instance:LE K:=⟨fun x y=>¬ Lt y.1 x.1⟩
theorem K.lt_def {x y:K}:x<y↔Lt x.1 y.1:=Iff.rfl
theorem K.le_def {x y:K}:x≤y ↔ ¬ Lt y.1 x.1:=Iff.rfl
theorem K.tri (x y:K):(cmpQ x.1 y.1=1∧y<x)∨(cmpQ x.1 y.1 = -1∧x<y)∨(cmpQ x.1 y.1=0∧x=y):=by
 rcases ybF x.2.1 y.2.1 with h|h|⟨h,h2⟩
 ·exact .inl h
 ·exact .inr (.inl h)
 exact .inr (.inr ⟨h,Subtype.ext h2⟩)
theorem K.irrefl (x:K):¬ x<x:=fun h=>Lt.irrefl x.2.1.nn h
theorem K.trans {x y z:K} (h:x<y) (h2:y<z):x<z:=Lt.trans x.2.1.nn y.2.1.nn h h2
instance:Std.IsLinearOrder K where
 le_refl a:=K.irrefl a
 le_trans a b c h h2 h3:=by
  have h3:c<a:=h3;rcases K.tri a b with ⟨_,g⟩|⟨_,g⟩|⟨_,g⟩
  ·exact h g
  ·exact h2 (K.trans h3 g)
  subst g;exact h2 h3
 le_antisymm a b h h2:=by
  rcases K.tri a b with ⟨_,g⟩|⟨_,g⟩|⟨_,g⟩
  ·exact absurd g h
  ·exact absurd g h2
  exact g
 le_total a b:=by
  rcases K.tri a b with ⟨_,g⟩|⟨_,g⟩|⟨_,g⟩
  ·exact .inr (fun h=>K.irrefl _ (K.trans g h))
  ·exact .inl (fun h=>K.irrefl _ (K.trans g h))
  subst g;exact .inl (K.irrefl _)
instance:Std.LawfulOrderLT K where
 lt_iff a b:=by
  constructor
  ·intro h
   exact ⟨fun h2=>K.irrefl _ (K.trans h h2),fun h2=>h2 h⟩
  rintro ⟨h,h2⟩;exact Classical.not_not.1 h2
theorem K.cmp_neg {x y:K}:cmpQ x.1 y.1 = -1↔x<y:=by
 rcases K.tri x y with ⟨h,g⟩|⟨h,g⟩|⟨h,g⟩
 ·rw [h];constructor
  ·intro h;exact absurd h (by decide)
  intro h;exact absurd (K.trans g h) (K.irrefl _)
 ·rw [h];exact ⟨fun _=>g,fun _=>rfl⟩
 rw [h];subst g;constructor
 ·intro h;exact absurd h (by decide)
 intro h;exact absurd h (K.irrefl _)
def cmpB (a b:Bd K):Int:=if cmpQ a.pt.1 b.pt.1=0 then (if a.beh=b.beh then 0 else if b.beh then -1 else 1) else cmpQ a.pt.1 b.pt.1
theorem yey (a b:Bd K):(cmpB a b=1∧b<a)∨(cmpB a b = -1∧a<b)∨(cmpB a b=0∧a=b):=by
 unfold cmpB;rw [Bd.lt_def,Bd.lt_def];rcases K.tri a.pt b.pt with ⟨h,g⟩|⟨h,g⟩|⟨h,g⟩
 ·rw [h];exact .inl ⟨if_neg (by decide),.inl g⟩
 ·rw [h];exact .inr (.inl ⟨if_neg (by decide),.inl g⟩)
 rw [h,if_pos rfl];by_cases h1:a.beh=b.beh
 ·rw [if_pos h1];exact .inr (.inr ⟨rfl,Bd.ext g h1⟩)
 rw [if_neg h1];by_cases h2:b.beh=true
 ·rw [if_pos h2];exact .inr (.inl ⟨rfl,.inr ⟨g,by simp_all,h2⟩⟩)
 rw [if_neg h2];exact .inl ⟨rfl,.inr ⟨g.symm,by simp_all,by simp_all⟩⟩
def kcells (x:Qn):List Value:=[.bool (sgB x.p.num),.string (mgS x.p.num),.bool false,.string (dnS x.p.den),.bool (sgB x.r.num),.string (mgS x.r.num),.bool false,.string (dnS x.r.den),.bool x.neg]
def kC (x:K):Array Value:=(kcells x.1).toArray
def kv (x:K):Value:=.agg (kC x)
theorem ybf (x:K):kv x = .agg #[.bool (sgB x.1.p.num),.string (mgS x.1.p.num),.bool false,.string (dnS x.1.p.den),.bool (sgB x.1.r.num),.string (mgS x.1.r.num),.bool false,.string (dnS x.1.r.den),.bool x.1.neg]:=rfl
def icells (i:Iv K):List Value:=kcells i.f.pt.1++kcells i.l.pt.1++[.bool i.f.beh,.bool (!i.l.beh)]
def iC (i:Iv K):Array Value:=(icells i).toArray
def iv (i:Iv K):Value:=.agg (iC i)
theorem ycD (i:Iv K):iv i = .agg #[.bool (sgB i.f.pt.1.p.num),.string (mgS i.f.pt.1.p.num),.bool false,.string (dnS i.f.pt.1.p.den),.bool (sgB i.f.pt.1.r.num),.string (mgS i.f.pt.1.r.num),.bool false,.string (dnS i.f.pt.1.r.den),.bool i.f.pt.1.neg,
 .bool (sgB i.l.pt.1.p.num),.string (mgS i.l.pt.1.p.num),.bool false,.string (dnS i.l.pt.1.p.den),.bool (sgB i.l.pt.1.r.num),.string (mgS i.l.pt.1.r.num),.bool false,.string (dnS i.l.pt.1.r.den),.bool i.l.pt.1.neg,.bool i.f.beh,.bool (!i.l.beh)]:=rfl
theorem ybr (x:Qn):(kcells x).length=9:=rfl
theorem ybI (i:Iv K):(icells i).length=20:=rfl
theorem ybV (x:Qn):∀ v∈kcells x,v.oneCell'=true:=by
 intro v hv;simp only [kcells,List.mem_cons,List.not_mem_nil,or_false] at hv;rcases hv with rfl|rfl|rfl|rfl|rfl|rfl|rfl|rfl|rfl<;>rfl
theorem ybU (i:Iv K):∀ v∈icells i,v.oneCell'=true:=by
 intro v hv;unfold icells at hv;rcases List.mem_append.1 hv with hv|hv
 ·rcases List.mem_append.1 hv with hv|hv
  ·exact ybV _ v hv
  exact ybV _ v hv
 simp only [List.mem_cons,List.not_mem_nil,or_false] at hv;rcases hv with rfl|rfl<;>rfl
theorem infoReal:∃ ie,prog.info? 30=some ie∧ie.size=9:=by
 have h:(prog.info? 30).map (·.size)=some 9:=by kernel_rfl
 cases hi:prog.info? 30 with
 | none=>rw [hi] at h;cases h
 | some ie=>rw [hi] at h;exact ⟨ie,rfl,by simpa using h⟩
theorem infoIv:∃ ie,prog.info? 32=some ie∧ie.size=20:=by
 have h:(prog.info? 32).map (·.size)=some 20:=by kernel_rfl
 cases hi:prog.info? 32 with
 | none=>rw [hi] at h;cases h
 | some ie=>rw [hi] at h;exact ⟨ie,rfl,by simpa using h⟩
theorem yba (w:World) (b o:Nat) (x:Qn) (hc:∀ k v,(kcells x)[k]? = some v→w.cell? ⟨b,o+k,none⟩=some v):(loadVar 30 ⟨b,o,none⟩).run prog w = .ok (qv x) w:=by
 obtain⟨ie,hie,hs⟩:=infoReal;exact Go.Lib.rl_loadVar_cells 30 ie hie isAgg30 b o (kcells x) (by rw [hs];rfl) w hc
theorem ydo (w:World) (b o:Nat) (i:Iv K) (hc:∀ k v,(icells i)[k]? = some v→w.cell? ⟨b,o+k,none⟩=some v):(loadVar 32 ⟨b,o,none⟩).run prog w = .ok (iv i) w:=by
 obtain⟨ie,hie,hs⟩:=infoIv;exact Go.Lib.rl_loadVar_cells 32 ie hie isAgg32 b o (icells i) (by rw [hs];rfl) w hc
def IvAt (w:World) (b o:Nat) (i:Iv K):Prop:=∀ k v,(icells i)[k]? = some v→w.cell? ⟨b,o+k,none⟩=some v
def KAt (w:World) (b o:Nat) (x:Qn):Prop:=∀ k v,(kcells x)[k]? = some v→w.cell? ⟨b,o+k,none⟩=some v
theorem IvAt.frm {w:World} {b o:Nat} {i:Iv K} (h:IvAt w b o i):KAt w b o i.f.pt.1:=fun k v hk=>by
 refine h k v ?_;have hl:k<9:=by have:=(List.getElem?_eq_some_iff.1 hk).1;rwa [ybr] at this
 unfold icells;rw [List.append_assoc,List.getElem?_append_left (by rw [ybr];exact hl)];exact hk
theorem IvAt.upto {w:World} {b o:Nat} {i:Iv K} (h:IvAt w b o i):KAt w b (o+9) i.l.pt.1:=fun k v hk=>by
 have hl:k<9:=by have:=(List.getElem?_eq_some_iff.1 hk).1;rwa [ybr] at this
 have:=h (9+k) v (by
  unfold icells;rw [List.append_assoc,List.getElem?_append_right (by rw [ybr];omega),ybr,List.getElem?_append_left (by rw [ybr];omega),Nat.add_sub_cancel_left]
  exact hk)
 rwa [← Nat.add_assoc] at this
theorem ybc {w:World} {g:Nat} {i:Iv K} {t:TypeId} (h:w.heap[g]? = some (.cells (iC i) t)):IvAt w g 0 i:=fun k v hk=>by
 rw [Nat.zero_add,yab h];exact (List.getElem?_toArray ..).trans hk
theorem ygl {w:World} {g:Nat} {x:K} {t:TypeId} (h:w.heap[g]? = some (.cells (kC x) t)):KAt w g 0 x.1:=fun k v hk=>by
 rw [Nat.zero_add,yab h];exact (List.getElem?_toArray ..).trans hk
theorem IvAt.keep {w w':World} {b o:Nat} {i:Iv K} (h:IvAt w b o i) (hb:w'.heap[b]? = w.heap[b]?):IvAt w' b o i:=fun k v hk=>by
 rw [World.cell?_of_block hb];exact h k v hk
theorem cmp_tri (x y:K):cmpQ x.1 y.1 = -1∨cmpQ x.1 y.1=0∨cmpQ x.1 y.1=1:=by rcases K.tri x y with h|h|h<;>simp [h.1]
structure InsA where
 P:Nat
 D:Nat
 R:Nat
 E:Nat
 neg:Bool
 hP:P≤255
 hD:D≤255
 hR:R≤255
 hE:E≤255
def InsA.v (a:InsA):Value:=.agg #[.int .u8 a.P,.int .u8 a.D,.int .u8 a.R,.int .u8 a.E,.bool a.neg]
def InsA.p (a:InsA):Rat:=Rat.divInt ((a.P:Int) % 64) (1+(a.D:Int) % 4)
def InsA.r (a:InsA):Rat:=Rat.divInt ((a.R:Int) % 12) (1+(a.E:Int) % 3)
theorem ygT {a b:Int} (hb:0<b) (ha:a.natAbs<256) (hb2:b.natAbs<256):FitQ 1 (Rat.divInt a b):=by
 obtain⟨B,rfl⟩:∃ B:Nat,b=(B:Int):=⟨b.toNat,by omega⟩;have hm:mk (sgB a) a.natAbs=a:=mk_self a;obtain⟨h1,h2⟩:=div_mk (sgB a) a.natAbs B (by omega);rw [hm] at h1 h2;refine ⟨?_,?_⟩
 ·rw [Fit_iff,h1,mk_abs]
  exact Nat.lt_of_le_of_lt (Nat.div_le_self _ _) (by simpa using ha)
 rw [Fit_iff,h2];exact Nat.lt_of_le_of_lt (Nat.div_le_self _ _) (by simpa using hb2)
theorem InsA.fp (a:InsA):FitQ 1 a.p:=ygT (by omega) (by omega) (by omega)
theorem InsA.fr (a:InsA):FitQ 1 a.r:=ygT (by omega) (by omega) (by omega)
theorem InsA.rnn (a:InsA):0≤a.r:=by
 unfold InsA.r;rw [Rat.divInt_nonneg_iff_of_pos_right (by omega)];omega
noncomputable def InsA.k (a:InsA):K:=⟨ofQ a.p a.r a.neg,ofQ_ok a.rnn,by
 have h:=ofQ_fit (neg:=a.neg) a.fp a.fr
 exact ⟨h.1.mono (by decide),h.2.mono (by decide)⟩⟩
theorem ygU (a:InsA) (w:World):Calls prog 32 #[a.v] w fun e w'=>e = .returned (kv a.k)∧Keep [] w w':=by
 have H1:=jX (rof_c ((a.P:Int) % 64) (1+(a.D:Int) % 4) (by omega) (by omega) (by omega) (by omega) (by omega));have H2:=jX (rof_c ((a.R:Int) % 12) (1+(a.E:Int) % 3) (by omega) (by omega) (by omega) (by omega) (by omega));have H3:=jX (fof_c a.p a.r a.neg (a.fp.mono (by decide)) (a.fr.mono (by decide)));rw [show Rat.divInt ((a.P:Int) % 64) (1+(a.D:Int) % 4)=a.p from rfl] at H1
 rw [show Rat.divInt ((a.R:Int) % 12) (1+(a.E:Int) % 3)=a.r from rfl] at H2
 rw [show qv (ofQ a.p a.r a.neg)=kv a.k from rfl,ybf] at H3
 rw [ybf];unfold InsA.v;unfold rv at H1 H2 H3;generalize sgB (a.k.1).p.num=x1 at *;generalize mgS (a.k.1).p.num=x2 at *;generalize dnS (a.k.1).p.den=x3 at *;generalize sgB (a.k.1).r.num=x4 at *;generalize mgS (a.k.1).r.num=x5 at *;generalize dnS (a.k.1).r.den=x6 at *;generalize (a.k.1).neg=x7 at *;generalize sgB (a.p).num=p1 at *;generalize mgS (a.p).num=p2 at *;generalize dnS (a.p).den=p3 at *;generalize sgB (a.r).num=r1 at *;generalize mgS (a.r).num=r2 at *;generalize dnS (a.r).den=r3 at *;have hP:=a.hP;have hD:=a.hD;have hR:=a.hR;have hE:=a.hE;generalize a.P=P at *;generalize a.D=D at *;generalize a.R=R at *;generalize a.E=E at *;generalize a.neg=neg at *;go_enter func32,ntmps32
 go_wp2_with fail;obtain⟨W,ga,gb,hW,ega,egb,Bga,Bgb,hga,hgb,hgW,HkW⟩:=al2h w (.cells #[.int .u8 P,.int .u8 D,.int .u8 R,.int .u8 E,.bool neg] 38) (.cells #[.bool false,.string ⟨#[]⟩,.bool false,.string ⟨#[]⟩,.bool false,.string ⟨#[]⟩,.bool false,.string ⟨#[]⟩,.bool false] 30);rw [← hW];try rw [egb]
 try rw [ega]
 clear hW ega egb;have kga:=yaf Bga.out;have Q1:Hid (∀ m:KW W,Calls prog 91 #[.int .i64 ((P:Int) % 64),.int .i64 (1+(D:Int) % 4)] (Wk W m) fun e w'=>e = .returned (.agg #[.bool p1,.string p2,.bool false,.string p3])∧∃ m,w'=Wk W m):=fun m=>qk m (H1.out _);have Q2:Hid (∀ m:KW W,Calls prog 91 #[.int .i64 ((R:Int) % 12),.int .i64 (1+(E:Int) % 3)] (Wk W m) fun e w'=>e = .returned (.agg #[.bool r1,.string r2,.bool false,.string r3])∧∃ m,w'=Wk W m):=fun m=>qk m (H2.out _);have Q3:Hid (∀ m:KW W,Calls prog 90 #[.agg #[.bool p1,.string p2,.bool false,.string p3],.agg #[.bool r1,.string r2,.bool false,.string r3],.bool neg] (Wk W m) fun e w'=>e = .returned (.agg #[.bool x1,.string x2,.bool false,.string x3,.bool x4,.string x5,.bool false,.string x6,.bool x7])∧∃ m,w'=Wk W m):=fun m=>qk m (H3.out _);clear H1 H2 H3;refine yai 23 (by kernel_rfl) (by kernel_rfl) ?_;simp only [List.take_succ_cons,List.take_zero,List.drop_succ_cons,List.drop_zero]
 repeat (first
  | go_big_quiet_skip
  | (go_big_quiet_want;go_big_quiet_op;first|go_big_quiet_on|go_big_quiet_call (first
   | (go_at_call 91;with_reducible exact (Q1).out _)|(go_at_call 91;with_reducible exact (Q2).out _)|(go_at_call 90;with_reducible exact (Q3).out _))))
 refine wpQuiet_nil ?_;rintro wz ⟨⟨_,hk_wz⟩,rfl⟩;clear kga Q1 Q2 Q3;replace Bga:=jH hk_wz Bga;replace Bgb:=jH hk_wz Bgb;replace HkW:=jX (HkW.out.tz hk_wz);clear hk_wz;obtain⟨pgb,fgb,lgb⟩:=jQ Bgb;go_wp2_with fail;refine bodyPost_ret (v:=.agg #[.bool x1,.string x2,.bool false,.string x3,.bool x4,.string x5,.bool false,.string x6,.bool x7]) ?_ rfl ⟨rfl,by repeat (first|(with_reducible exact HkW.out)|(refine Keep.sP ?_ _ _ _ (by omega))|(refine Keep.aP ?_ _)|(refine Keep.dP ?_))⟩;rw [yac rfl];go_simp
theorem yaH {P:Program} {C:World→Prop} {o:Oper} {a:Act} {K:Act→Prop} (t:TypeId) (x:Operand) (ad:Addr) (v:Value) (ho:o.op = .load t x) (hx:a.eval x = .pointer (some ad)) (h:∀ w,C w→(loadVar t ad).run P w = .ok v w) (hk:K (a.put o.dst v)):o.quiet P a C K :=
 ⟨v,fun w hw=>by
  unfold Oper.quietAt execOp;simp only [ho,hx,Instr.loadAt,Instr.sureAddr,Sem.run_bind,Sem.run_pure,Result.andThen_ok,h w hw]
  exact ⟨rfl,rfl⟩,hk⟩
theorem IvAt.ld {w:World} {b o:Nat} {i:Iv K} (h:IvAt w b o i) (hb:b<w.heap.size):∀ m:KW w,(loadVar 32 ⟨b,o,none⟩).run prog (Wk w m) = .ok (iv i) (Wk w m) :=
 fun m=>ydo _ _ _ _ (h.keep (m.k.block b hb (by simp)))
theorem KAt.keep' {w w':World} {b o:Nat} {x:Qn} (h:KAt w b o x) (hb:w'.heap[b]? = w.heap[b]?):KAt w' b o x:=fun k v hk=>by
 rw [World.cell?_of_block hb];exact h k v hk
theorem KAt.ld {w:World} {b o:Nat} {x:K} (h:KAt w b o x.1) (hb:b<w.heap.size):∀ m:KW w,(loadVar 30 ⟨b,o,none⟩).run prog (Wk w m) = .ok (kv x) (Wk w m) :=
 fun m=>yba _ _ _ _ (h.keep' (m.k.block b hb (by simp)))
theorem IvAt.all {w:World} {b o:Nat} {i:Iv K} (h:IvAt w b o i):(w.cell? ⟨b,o,none⟩=some (.bool (sgB i.f.pt.1.p.num)))∧(w.cell? ⟨b,o+1,none⟩=some (.string (mgS i.f.pt.1.p.num)))∧(w.cell? ⟨b,o+2,none⟩=some (.bool false))∧(w.cell? ⟨b,o+3,none⟩=some (.string (dnS i.f.pt.1.p.den)))∧(w.cell? ⟨b,o+4,none⟩=some (.bool (sgB i.f.pt.1.r.num)))∧(w.cell? ⟨b,o+5,none⟩=some (.string (mgS i.f.pt.1.r.num)))∧(w.cell? ⟨b,o+6,none⟩=some (.bool false))∧(w.cell? ⟨b,o+7,none⟩=some (.string (dnS i.f.pt.1.r.den)))∧(w.cell? ⟨b,o+8,none⟩=some (.bool i.f.pt.1.neg))∧(w.cell? ⟨b,o+9,none⟩=some (.bool (sgB i.l.pt.1.p.num)))∧(w.cell? ⟨b,o+10,none⟩=some (.string (mgS i.l.pt.1.p.num)))∧(w.cell? ⟨b,o+11,none⟩=some (.bool false))∧(w.cell? ⟨b,o+12,none⟩=some (.string (dnS i.l.pt.1.p.den)))∧(w.cell? ⟨b,o+13,none⟩=some (.bool (sgB i.l.pt.1.r.num)))∧(w.cell? ⟨b,o+14,none⟩=some (.string (mgS i.l.pt.1.r.num)))∧(w.cell? ⟨b,o+15,none⟩=some (.bool false))∧(w.cell? ⟨b,o+16,none⟩=some (.string (dnS i.l.pt.1.r.den)))∧(w.cell? ⟨b,o+17,none⟩=some (.bool i.l.pt.1.neg))∧(w.cell? ⟨b,o+18,none⟩=some (.bool i.f.beh))∧(w.cell? ⟨b,o+19,none⟩=some (.bool (!i.l.beh))) :=
 ⟨h 0 _ rfl,h 1 _ rfl,h 2 _ rfl,h 3 _ rfl,h 4 _ rfl,h 5 _ rfl,h 6 _ rfl,h 7 _ rfl,h 8 _ rfl,h 9 _ rfl,h 10 _ rfl,h 11 _ rfl,h 12 _ rfl,h 13 _ rfl,h 14 _ rfl,h 15 _ rfl,h 16 _ rfl,h 17 _ rfl,h 18 _ rfl,h 19 _ rfl⟩
theorem KAt.keep {w w':World} {b o:Nat} {x:Qn} (h:KAt w b o x) (hb:w'.heap[b]? = w.heap[b]?):KAt w' b o x:=fun k v hk=>by
 rw [World.cell?_of_block hb];exact h k v hk
theorem KAt.all {w:World} {b o:Nat} {x:K} (h:KAt w b o x.1):(w.cell? ⟨b,o,none⟩=some (.bool (sgB x.1.p.num)))∧(w.cell? ⟨b,o+1,none⟩=some (.string (mgS x.1.p.num)))∧(w.cell? ⟨b,o+2,none⟩=some (.bool false))∧(w.cell? ⟨b,o+3,none⟩=some (.string (dnS x.1.p.den)))∧(w.cell? ⟨b,o+4,none⟩=some (.bool (sgB x.1.r.num)))∧(w.cell? ⟨b,o+5,none⟩=some (.string (mgS x.1.r.num)))∧(w.cell? ⟨b,o+6,none⟩=some (.bool false))∧(w.cell? ⟨b,o+7,none⟩=some (.string (dnS x.1.r.den)))∧(w.cell? ⟨b,o+8,none⟩=some (.bool x.1.neg)) :=
 ⟨h 0 _ rfl,h 1 _ rfl,h 2 _ rfl,h 3 _ rfl,h 4 _ rfl,h 5 _ rfl,h 6 _ rfl,h 7 _ rfl,h 8 _ rfl⟩
section
variable {α:Type} (enc:α→List Value)
def RowE (w:World) (sv:Value) (l:List α):Prop :=
 (sv = .slice none 0 0∧l=[])∨∃ g o c,sv = .slice (some ⟨g,o,none⟩) l.length c∧l.length≤c∧g<w.heap.size∧∀ i v,(l.flatMap enc)[i]? = some v→w.cell? ⟨g,o+i,none⟩=some v
theorem ygj {k:Nat} (hk:∀ x,(enc x).length=k) (l:List α):(l.flatMap enc).length=l.length*k:=by
 induction l with
 | nil=>simp
 | cons x l ih=>rw [List.flatMap_cons,List.length_append,hk,ih,List.length_cons,Nat.add_mul];omega
theorem ygd {k:Nat} (hk:∀ x,(enc x).length=k) (l:List α):∀ (i j:Nat) (hi:i<l.length),j<k→(l.flatMap enc)[i*k+j]? = (enc l[i])[j]?:=by
 induction l with
 | nil=>intro i j hi;simp at hi
 | cons x l ih =>
  intro i j hi hj;rw [List.flatMap_cons];cases i with
  | zero =>
   rw [Nat.zero_mul,Nat.zero_add,List.getElem?_append_left (by rw [hk];exact hj)];rfl
  | succ i =>
   rw [List.getElem?_append_right (by rw [hk,Nat.add_mul];omega),hk,show (i+1)*k+j-k=i*k+j by rw [Nat.add_mul];omega,ih i j (by simp at hi;omega) hj]
   rfl
variable {enc}
theorem RowE.later {w w':World} {sv:Value} {l:List α} (h:RowE enc w sv l) (hk:Keep [] w w'):RowE enc w' sv l:=by
 rcases h with h|⟨g,o,c,rfl,hc,hg,hx⟩
 ·exact .inl h
 refine .inr ⟨g,o,c,rfl,hc,Nat.lt_of_lt_of_le hg hk.size,fun i v hv=>?_⟩;rw [World.cell?_of_block (hk.block g hg (by simp))];exact hx i v hv
theorem RowE.form {w:World} {sv:Value} {l:List α} (h:RowE enc w sv l):∃ a c,sv = .slice a l.length c∧l.length≤c:=by
 rcases h with ⟨rfl,rfl⟩|⟨g,o,c,rfl,hc,_⟩
 ·exact ⟨_,_,rfl,by simp⟩
 exact ⟨_,_,rfl,hc⟩
theorem RowE.elem {w:World} {a:Option Addr} {n c k:Nat} {l:List α} (hk:∀ x,(enc x).length=k) (h:RowE enc w (.slice a n c) l) (i:Nat) (hi:i<l.length) :
  ∃ g o,a=some ⟨g,o,none⟩∧g<w.heap.size∧∀ j v,(enc l[i])[j]? = some v→w.cell? ⟨g,o+i*k+j,none⟩=some v:=by
 rcases h with ⟨_,rfl⟩|⟨g,o,c,e,hc,hg,hx⟩
 ·simp at hi
 injection e with e1 e2 e3;refine ⟨g,o,e1,hg,fun j v hv=>?_⟩;have hj:j<k:=by have:=(List.getElem?_eq_some_iff.1 hv).1;rwa [hk] at this
 rw [Nat.add_assoc];exact hx _ _ (by rw [ygd enc hk l i j hi hj];exact hv)
theorem RowE.nil (w:World):RowE enc w (.slice none 0 0) []:=.inl ⟨rfl,rfl⟩
structure OE (enc:α→List Value) (e:TypeId) (k:Nat) (w0 w:World) (v:Value) (l:List α):Prop where
 row:w.ownsRow 0 e k v l.length (l.flatMap enc)
 base:∀ g,v.ownBlock=some g→w0.heap.size≤g
 keep:Keep [] w0 w
theorem OE.nil {e:TypeId} {k:Nat} (w:World):OE enc e k w w (.slice none 0 0) []:=⟨⟨by simp,.inl ⟨rfl,rfl⟩⟩,by simp [Value.ownBlock],Keep.refl _ _⟩
theorem OE.later {e:TypeId} {k:Nat} {w0 w w':World} {v:Value} {l:List α} (h:OE enc e k w0 w v l) (hk:Keep [] w w'):OE enc e k w0 w' v l :=
 ⟨yat h.row hk (by simp),h.base,h.keep.tz hk⟩
theorem OE.form {e:TypeId} {k:Nat} {w0 w:World} {v:Value} {l:List α} (h:OE enc e k w0 w v l):∃ po pc,v = .slice po l.length pc:=ydS h.row
theorem OE.read {e:TypeId} {k:Nat} {w0 w:World} {v:Value} {l:List α} (h:OE enc e k w0 w v l):RowE enc w v l:=by
 rcases h.row.2 with ⟨hv,hn⟩|⟨g,cap,cur,hv,hb,hg,hnc,hcm,hcs,htake⟩
 ·exact .inl ⟨hv,List.eq_nil_of_length_eq_zero hn⟩
 have hx:=World.ownsRow.cells (g:=g) h.row (by rw [hv];rfl);refine .inr ⟨g,0,cap,hv,hnc,yaa hg,fun i v hi=>?_⟩;have:=hx i v hi;rwa [Addr.add_lit] at this
theorem OE.step {e:TypeId} {k:Nat} {w0 wr wa:World} {v:Value} {l:List α} (h:OE enc e k w0 wr v l) {g cap:Nat} {x:α} {o:Obj} (hoa:wa.ownsRow 0 e k (.slice (some ⟨g,0,none⟩) (l.length+1) cap) (l.length+1) (l.flatMap enc++enc x))
  (hga:(wr.alloc o).grownBy wa v.ownBlock) (hfa:some g=v.ownBlock∨wr.heap.size+1≤g) (hda:(wr.alloc o).drawn≤wa.drawn) :
  OE enc e k w0 wa (.slice (some ⟨g,0,none⟩) (l.length+1) cap) (l++[x]):=by
 refine ⟨?_,?_,?_⟩
 ·rw [List.flatMap_append,List.length_append]
  simpa using hoa
 ·intro k hk
  simp [Value.ownBlock] at hk;subst hk;rcases hfa with h1|h1
  ·exact h.base _ h1.symm
  have:=h.keep.size;omega
 exact (h.keep.aP _).grownPast hga hda (fun k hk=>h.base k hk)
end
abbrev IvR:=RowE (fun i:Iv K=>icells i)
abbrev KR:=RowE (fun x:K=>kcells x.1)
theorem IvR.elem {w:World} {a:Option Addr} {n c:Nat} {l:List (Iv K)} (h:IvR w (.slice a n c) l) (i:Nat) (hi:i<l.length):∃ g o,a=some ⟨g,o,none⟩∧g<w.heap.size∧IvAt w g (o+i*20) l[i]:=RowE.elem ybI h i hi
theorem KR.elem {w:World} {a:Option Addr} {n c:Nat} {l:List K} (h:KR w (.slice a n c) l) (i:Nat) (hi:i<l.length):∃ g o,a=some ⟨g,o,none⟩∧g<w.heap.size∧KAt w g (o+i*9) l[i].1:=RowE.elem (fun x=>ybr x.1) h i hi
section
variable {P:Program}
theorem ybD {o:Oper} {a:Act} {w:World} {K:Act→World→Prop} {Q:Exit→Act→World→Prop} (v:Value) (w':World) (h:(execOp a.eval o).run P w = .ok (.value v) w') (hk:K (a.put o.dst v) w'):o.wp P a w K Q:=by
 unfold Oper.wp;rw [h];exact hk
theorem ybw {o:Oper} {ev:Operand→Value} {w:World} (t:TypeId) (x:Operand) (ad:Addr) (v:Value) (ho:o.op = .load t x) (hx:ev x = .pointer (some ad)) (h:(loadVar t ad).run P w = .ok v w):(execOp ev o).run P w = .ok (.value v) w:=by
 unfold execOp;simp only [ho,hx,Instr.loadAt,Instr.sureAddr,Sem.run_bind,Sem.run_pure,Result.andThen_ok,h]
theorem ybb {o:Oper} {ev:Operand→Value} {w w':World} (t:TypeId) (n:Nat) (parts:Array (Nat × Operand)) (parts':Array (Nat × Value)) (v:Value) (ho:o.op = .buildSlice t n parts) (hp:(parts.map fun (i,x)=>(i,ev x))=parts') (h:(Instr.buildSlice t n parts').run P w = .ok v w'):(execOp ev o).run P w = .ok (.value v) w':=by
 unfold execOp;simp only [ho,hp,Sem.run_bind,Sem.run_pure,Result.andThen_ok,h]
theorem yik {o:Oper} {ev:Operand→Value} {w w':World} (s x:Operand) (t:TypeId) (vs vx v:Value) (ho:o.op = .call { callee:=.builtin .append,args:=#[s,x],argTypes:=#[t,t] }) (hs:ev s=vs) (hx:ev x=vx)
  (h:(Builtin.append_ #[t,t] o.type #[vs,vx]).run P w = .ok v w'):(execOp ev o).run P w = .ok (.value v) w':=by
 unfold execOp;simp only [ho,resolve,invoke,builtin,Sem.run_bind,Sem.run_pure,Result.andThen_ok,List.map_toArray,List.map_cons,List.map_nil,hs,hx,h]
variable {α:Type} {enc:α→List Value} {e:TypeId} {k:Nat}
theorem OE.empty (w:World):OE enc e k w (w.alloc (.cells #[] e)) (.slice (some ⟨w.heap.size,0,none⟩) 0 0) []:=by
 refine ⟨⟨by simp,.inr ⟨w.heap.size,0,#[],rfl,Nat.zero_le _,World.alloc_heap_new w _,Nat.le_refl _,by simp,by simp,by simp⟩⟩,?_,Keep.alloc [] w _⟩;intro g hg;simp [Value.ownBlock] at hg;omega
theorem OE.app {t ty:TypeId} {i:TypeInfo} {z:Value} {bytes:Nat} (ht:P.underlying t=some (.slice e)) (hi:P.info? e=some i) (hz:i.zero=some z) (hsize:i.size=k) (hby:i.bytes=bytes) (hzs:z.cells.size=k) (hk0:0<k)
  (henc:∀ x,(enc x).length=k) (hone:∀ x,∀ v∈enc x,v.oneCell'=true) {w0 w:World} {v y:Value} {l m:List α} (h:OE enc e k w0 w v l) (hv:v.ownBlock≠none∨0<m.length) (hy:RowE enc w y m)
  (h63:l.length+m.length≤maxLen) (hbytes:(l.length+m.length)*bytes≤140737488355328) :
  ∃ v' w',(Builtin.append_ #[t,t] ty #[v,y]).run P w = .ok v' w'∧OE enc e k w0 w' v' (l++m)∧v'.ownBlock≠none∧∀ F,(∀ g,v.ownBlock=some g→g∈F)→Keep F w w':=by
 rcases hy with ⟨rfl,rfl⟩|⟨g,b,c,rfl,hc,hg,hx⟩
 ·have hvn : v.ownBlock ≠ none := by
   rcases hv with hv|hv
   ·exact hv
   simp at hv
  exact ⟨v,w,run_append_owned_none (P:=P) (w:=w) 0 t ty e i k ht hi v _ _ h.row,by simpa using h,hvn,fun F _=>Keep.refl F w⟩
 have hl:=ygj enc henc m;have hnews:∀ j u,(m.flatMap enc)[j]? = some u→w.cell? ((⟨g,b,none⟩:Addr).add j)=some u:=fun j u hj=>by rw [Addr.add_lit];exact hx j u hj
 have h1:∀ u∈m.flatMap enc,u.oneCell'=true:=fun u hu=>by
  obtain⟨x,_,hxu⟩:=List.mem_flatMap.1 hu;exact hone x u hxu
 obtain⟨v',w',hr,ho,hgr,_⟩:=run_append_own (P:=P) w 0 t ty e i z k bytes ht hi hz hsize hby hzs hk0 v _ _ h.row ⟨g,b,none⟩ m.length c _ hl hnews h1 h63 hbytes (Nat.zero_le _)
 have fin : ∀ g' cap, (Builtin.append_ #[t, t] ty #[v, .slice (some ⟨g, b, none⟩) m.length c]).run P w = .ok (.slice (some ⟨g', 0, none⟩) (l.length + m.length) cap) w' → (some g' = v.ownBlock ∨ w.heap.size ≤ g') → w.drawn ≤ w'.drawn →
   ∃ v' w',(Builtin.append_ #[t,t] ty #[v,.slice (some ⟨g,b,none⟩) m.length c]).run P w = .ok v' w'∧OE enc e k w0 w' v' (l++m)∧v'.ownBlock≠none∧∀ F,(∀ g,v.ownBlock=some g→g∈F)→Keep F w w':=by
  intro g' cap h2 h3 h4;have h5:=h2;rw [hr] at h5;injection h5 with h5 _;subst h5;refine ⟨_,w',hr,⟨?_,?_,?_⟩,by simp [Value.ownBlock],fun F hF=>Keep.grown hgr h4 hF⟩
  ·rw [List.flatMap_append,List.length_append];exact ho
  ·intro x hx
   simp [Value.ownBlock] at hx;subst hx;rcases h3 with h3|h3
   ·exact h.base _ h3.symm
   exact Nat.le_trans h.keep.size h3
  exact h.keep.grownPast hgr h4 (fun x hx=>h.base x hx)
 rcases h.row.2 with ⟨rfl,hl0⟩|⟨g0,cap,cur,rfl,hb0,hgg,hnc,hcm,hcs,htake⟩
 ·have hm : 0 < m.length := by
   rcases hv with hv|hv
   ·exact absurd rfl hv
   exact hv
  have h2:=run_append_nil (P:=P) w t ty e i z ht hi hz ⟨g,b,none⟩ m.length c _ (by rw [hl,hsize]) hnews hm (by simp only [maxLen] at h63;omega) (by rw [hby];have hb:=hbytes;simp only [hl0,Nat.zero_add] at hb;omega);have hw:=h2;rw [hr] at hw;injection hw with _ hw;rw [← hw] at h2;refine fin w.heap.size _ (by rw [h2,hl0,Nat.zero_add]) (.inr (Nat.le_refl _)) (by rw [hw];exact Nat.le_succ _)
 subst hsize;by_cases hroom:l.length+m.length≤cap
 ·have hfit:l.length*i.size+(m.flatMap enc).length≤cur.size:=by rw [hl,hcs,← Nat.add_mul];exact Nat.mul_le_mul_right _ hroom
  have h2:=run_append_room (P:=P) w t ty e i ht hi g0 l.length cap cur hgg ⟨g,b,none⟩ m.length c _ hl hnews h1 hroom hfit
  have hw:w'=w.setRow g0 (cur.toList.take (l.length*i.size)++m.flatMap enc++cur.toList.drop (l.length*i.size+(m.flatMap enc).length)).toArray:=by
   rw [hr] at h2;injection h2
  rw [← hw] at h2;exact fin g0 cap h2 (.inl rfl) (by rw [hw];exact Nat.le_refl _)
 have holds:∀ j u,(l.flatMap enc)[j]? = some u→w.cell? ((⟨g0,0,none⟩:Addr).add j)=some u:=h.row.cells (g:=g0) rfl;have h2:=run_append_grow (P:=P) w t ty e i z ht hi hz ⟨g0,0,none⟩ l.length cap _ h.row.1 holds ⟨g,b,none⟩ m.length c _ hl hnews (by omega) (by simp only [maxLen] at h63;omega) (growslice_fits (by omega) (by rw [hby];exact hbytes));have hw:=h2;rw [hr] at hw;injection hw with _ hw;rw [← hw] at h2;exact fin _ _ h2 (.inr (Nat.le_refl _)) (by rw [hw];exact Nat.le_succ _)
end
theorem RowE.take {α:Type} {enc:α→List Value} {k:Nat} (hk:∀ x,(enc x).length=k) {w:World} {g o n c:Nat} {l:List α} (h:RowE enc w (.slice (some ⟨g,o,none⟩) n c) l) (i:Nat) (hi:i≤l.length):RowE enc w (.slice (some ⟨g,o,none⟩) i c) (l.take i):=by
 rcases h with ⟨h,_⟩|⟨g',o',c',e,hc,hg,hx⟩
 ·cases h
 injection e with e1 e2 e3;injection e1 with e1;injection e1 with e1 e4;subst e1 e4 e3;refine .inr ⟨g,o,c,by rw [List.length_take,Nat.min_eq_left hi],by rw [List.length_take];omega,hg,fun j v hj=>hx j v ?_⟩;have hs:l.flatMap enc=(l.take i).flatMap enc++(l.drop i).flatMap enc:=by rw [← List.flatMap_append,List.take_append_drop]
 rw [hs,List.getElem?_append_left (List.getElem?_eq_some_iff.1 hj).1];exact hj
theorem RowE.drop {α:Type} {enc:α→List Value} {k:Nat} (hk:∀ x,(enc x).length=k) {w:World} {g o n c:Nat} {l:List α} (h:RowE enc w (.slice (some ⟨g,o,none⟩) n c) l) (i:Nat) (hi:i≤l.length):RowE enc w (.slice (some ⟨g,o+i*k,none⟩) (l.length-i) (c-i)) (l.drop i):=by
 rcases h with ⟨h,_⟩|⟨g',o',c',e,hc,hg,hx⟩
 ·cases h
 injection e with e1 e2 e3;injection e1 with e1;injection e1 with e1 e4;subst e1 e4 e3;refine .inr ⟨g,o+i*k,c-i,by rw [List.length_drop],by rw [List.length_drop];omega,hg,fun j v hj=>?_⟩;have hs:l.flatMap enc=(l.take i).flatMap enc++(l.drop i).flatMap enc:=by rw [← List.flatMap_append,List.take_append_drop]
 have hlen:((l.take i).flatMap enc).length=i*k:=by rw [ygj enc hk,List.length_take,Nat.min_eq_left hi]
 rw [Nat.add_assoc];refine hx _ v ?_;rw [hs,List.getElem?_append_right (by rw [hlen];omega),hlen,Nat.add_sub_cancel_left];exact hj
theorem infoRealB:(prog.info? 30).map (fun i=>(i.zero.map Value.cells,i.size,i.bytes))=some (some #[.bool false,.string ⟨#[]⟩,.bool false,.string ⟨#[]⟩,.bool false,.string ⟨#[]⟩,.bool false,.string ⟨#[]⟩,.bool false],9,104):=by kernel_rfl
theorem real_info:∃ i z,prog.info? 30=some i∧i.zero=some z∧i.size=9∧i.bytes=104∧z.cells = #[.bool false,.string ⟨#[]⟩,.bool false,.string ⟨#[]⟩,.bool false,.string ⟨#[]⟩,.bool false,.string ⟨#[]⟩,.bool false]:=by
 have h:=infoRealB;cases hi:prog.info? 30 with
 | none=>rw [hi] at h;cases h
 | some i =>
  rw [hi] at h;simp only [Option.map_some,Option.some.injEq,Prod.mk.injEq] at h;obtain⟨h1,h2,h3⟩:=h;cases hz:i.zero with
  | none=>rw [hz] at h1;cases h1
  | some z =>
   rw [hz] at h1;injection h1 with h1;exact ⟨i,z,rfl,hz,h2,h3,h1⟩
abbrev OK_:=OE (fun x:K=>kcells x.1) 30 9
theorem KR.app' {ty:TypeId} {w0 w:World} {v y:Value} {l m:List K} (h:OK_ w0 w v l) (hv:v.ownBlock≠none∨0<m.length) (hy:KR w y m) (hb:l.length+m.length≤1000000000) :
  ∃ v' w',(Builtin.append_ #[55,55] ty #[v,y]).run prog w = .ok v' w'∧OK_ w0 w' v' (l++m)∧v'.ownBlock≠none∧∀ F,(∀ g,v.ownBlock=some g→g∈F)→Keep F w w':=by
 obtain⟨i,z,hi,hz,hs,hbt,hzc⟩:=real_info;exact OE.app (P:=prog) (bytes:=104) underlying55 hi hz hs hbt (by rw [hzc];rfl) (by decide) (fun (x:K)=>ybr x.1) (fun (x:K)=>ybV x.1) h hv hy (by unfold maxLen;omega) (by omega)
theorem KR.app {ty:TypeId} {w0 w:World} {v y:Value} {l m:List K} (h:OK_ w0 w v l) (hv:v.ownBlock≠none) (hy:KR w y m) (hb:l.length+m.length≤1000000000) :
  ∃ v' w',(Builtin.append_ #[55,55] ty #[v,y]).run prog w = .ok v' w'∧OK_ w0 w' v' (l++m)∧v'.ownBlock≠none∧∀ F,(∀ g,v.ownBlock=some g→g∈F)→Keep F w w':=KR.app' h (.inl hv) hy hb
theorem OK_.start (w:World):∃ u g,w.alloc (.cells #[] 30)=u∧w.heap.size=g∧u.heap.size=g+1∧OK_ w u (.slice (some ⟨g,0,none⟩) 0 0) []:=⟨_,_,rfl,rfl,by simp,OE.empty w⟩
theorem KR.one (x:K) (w:World):KR (w.alloc (.cells (kC x) 30)) (.slice (some ⟨w.heap.size,0,none⟩) 1 1) [x]:=by
 refine .inr ⟨w.heap.size,0,1,rfl,Nat.le_refl _,by simp,fun i v hv=>?_⟩;have h:=ygl (World.alloc_heap_new w (.cells (kC x) 30)) i v (by simpa using hv);exact h
theorem KR.single (x:K) (w:World):∃ u g,w.alloc (.cells (kC x) 30)=u∧w.heap.size=g∧u.heap.size=g+1∧Keep [] w u∧KR u (.slice (some ⟨g,0,none⟩) 1 1) [x]:=⟨_,_,rfl,rfl,by simp,Keep.alloc [] w _,KR.one x w⟩
theorem KR.pair (x y:K) (w:World):∃ u g,w.alloc (.cells (kcells x.1++kcells y.1).toArray 30)=u∧w.heap.size=g∧u.heap.size=g+1∧Keep [] w u∧KR u (.slice (some ⟨g,0,none⟩) 2 2) [x,y]:=by
 refine ⟨_,_,rfl,rfl,by simp,Keep.alloc [] w _,.inr ⟨w.heap.size,0,2,rfl,Nat.le_refl _,by simp,fun i v hv=>?_⟩⟩;rw [Nat.zero_add,yab (World.alloc_heap_new w _)];exact (List.getElem?_toArray ..).trans (by simpa using hv)
end Go.Proofs.YtpgffjjpiafhpaaGreatDoor
