/- Parts of a proof: Tj Tk Va Vd Ve Ua Th Tl Ub. -/
import Derived.Deep.Slices
import Derived.Lib.SmallJoins
import Derived.IntWalk
import Derived.Shelf.SlSortCmp.WholeK
import Derived.Test.YtpgffjjpiafhpaaGreatDoorS14
import Derived.Test.YtpgffjjpiafhpaaGreatDoorS15
import Derived.Test.YtpgffjjpiafhpaaGreatDoorS13
import Derived.Test.YtpgffjjpiafhpaaGreatDoorS12
set_option linter.unusedVariables false
set_option linter.unusedSimpArgs false
set_option maxRecDepth 100000
set_option maxHeartbeats 8000000
namespace Go.Proofs.YtpgffjjpiafhpaaGreatDoor
open Go.RowKit Tryz
structure SpanA where
 a:InsA
 b:InsA
 oa:Bool
 ob:Bool
def SpanA.v (s:SpanA):Value:=.agg #[.int .u8 s.a.P,.int .u8 s.a.D,.int .u8 s.a.R,.int .u8 s.a.E,.bool s.a.neg,.int .u8 s.b.P,.int .u8 s.b.D,.int .u8 s.b.R,.int .u8 s.b.E,.bool s.b.neg,.bool s.oa,.bool s.ob]
theorem yfE (ev:Operand→Value) (w:World) (o:Oper) (ho:o.op = .alloc 32):(execOp ev o).run prog w = .ok (.value (.pointer (some ⟨w.heap.size,0,none⟩))) (w.alloc (.cells #[.bool false,.string ⟨#[]⟩,.bool false,.string ⟨#[]⟩,.bool false,.string ⟨#[]⟩,.bool false,.string ⟨#[]⟩,.bool false,.bool false,.string ⟨#[]⟩,.bool false,.string ⟨#[]⟩,.bool false,.string ⟨#[]⟩,.bool false,.string ⟨#[]⟩,.bool false,.bool false,.bool false] 32)):=by
 unfold execOp;simp only [ho];go_simp
def ygj (s:SpanA):List Value:=[.int .u8 s.a.P,.int .u8 s.a.D,.int .u8 s.a.R,.int .u8 s.a.E,.bool s.a.neg,.int .u8 s.b.P,.int .u8 s.b.D,.int .u8 s.b.R,.int .u8 s.b.E,.bool s.b.neg,.bool s.oa,.bool s.ob]
theorem yhV (s:SpanA):(ygj s).length=12:=rfl
abbrev SpR:=RowE (fun s:SpanA=>ygj s)
theorem SpR.elem {w:World} {a:Option Addr} {n c:Nat} {l:List SpanA} (h:SpR w (.slice a n c) l) (i:Nat) (hi:i<l.length):∃ g o,a=some ⟨g,o,none⟩∧g<w.heap.size∧∀ j v,(ygj l[i])[j]? = some v→w.cell? ⟨g,o+i*12+j,none⟩=some v:=RowE.elem yhV h i hi
def SpQ (w:World) (v:Value) (l:List SpanA):Prop:=∃ (a:Option Addr) (c:Nat),v = .slice a l.length c∧(l=[]∨SpR w v l)
theorem SpQ.elem {w:World} {a:Option Addr} {n c:Nat} {l:List SpanA} (h:SpQ w (.slice a n c) l) (i:Nat) (hi:i<l.length):∃ g o,a=some ⟨g,o,none⟩∧g<w.heap.size∧∀ j v,(ygj l[i])[j]? = some v→w.cell? ⟨g,o+i*12+j,none⟩=some v:=by
 obtain⟨_,_,_,h|h⟩:=h
 ·subst h;simp at hi
 exact SpR.elem h i hi
theorem SpQ.later {w w':World} {v:Value} {l:List SpanA} (h:SpQ w v l) (hk:Keep [] w w'):SpQ w' v l:=by
 obtain⟨a,c,h1,h2⟩:=h;exact ⟨a,c,h1,h2.imp id (fun h=>h.later hk)⟩
section
open Go.ChangeShapes Go.WideShapes Go.ChangeAt
theorem yiY {α β:Type} (f:α→Option β):∀ (l:List α) (cs:List β),l.mapM f=some cs→cs.length=l.length∧∀ (i:Nat) (x:α),l[i]? = some x→f x=cs[i]?
 | [],cs,h=>by
  simp at h;subst h;exact ⟨rfl,fun i x hx=>by simp at hx⟩
 | x :: l,cs,h=>by
  rw [List.mapM_cons] at h;simp only [Option.bind_eq_bind,Option.pure_def,Option.bind_eq_some_iff] at h;obtain⟨y,hy,ys,hys,h⟩:=h;simp at h;subst h;obtain⟨h1,h2⟩:=yiY f l ys hys;refine ⟨by simp [h1],fun i z hz=>?_⟩;cases i with
  | zero=>simp at hz;subst hz;simpa using hy
  | succ i=>simp at hz ⊢;exact h2 i z hz
theorem cells?_get {w:World} {base n:Nat} {a:Addr} {cs:List Value} (h:w.cells? base a n=some cs):cs.length=n∧∀ i,i<n→w.cell? (a.add i)=cs[i]?:=by
 unfold World.cells? at h;split at h
 ·obtain⟨h1,h2⟩:=yiY _ _ _ h
  exact ⟨by simpa using h1,fun i hi=>h2 i i (by rw [List.getElem?_range hi])⟩
 cases h
theorem ydH {w:World} {a:Addr} {v:Value} (h:w.cell? a=some v):∃ b off,a=⟨b,off,none⟩:=by
 obtain⟨b,off,sp⟩:=a;cases sp with
 | none=>exact ⟨b,off,rfl⟩
 | some x=>simp [World.cell?] at h;split at h<;>simp at h
theorem cells_u8:prog.cellsOf 5=1:=by kernel_rfl
section
variable {H:Type} {enc:TypeId × Value→H} {w:World} {base:Nat} {held:Bool} {fuel:Nat}
end
end
section
open Go.ChangeShapes Go.WideShapes Go.ChangeAt
structure FrA where
 num:Int
 den:Int
 up:Nat
 down:Nat
 hn : -9223372036854775808≤num∧num≤9223372036854775807
 hd : -9223372036854775808≤den∧den≤9223372036854775807
 hu:up≤255
 hw:down≤255
def FrA.v (a:FrA):Value:=.agg #[.int .i64 a.num,.int .i64 a.den,.int .u8 a.up,.int .u8 a.down]
end
def FrA.d (a:FrA):Int:=if a.den=0 then 1 else a.den
section
open Go.RowKit Go.Sort Go.Shelf
section
variable {P:Program} {ρ:Ren} {α:Type} [Inhabited α] {enc:α→List Value} {k:Nat}
theorem yid (hk:∀ x,(enc x).length=k) {w:World} {g o n c:Nat} {l:List α} (h:RowE enc w (.slice (some ⟨g,o,none⟩) n c) l) (hf:∀ j,w.frozen? ⟨g,o+j,none⟩=false):HoldsK enc k w g o l.toArray:=by
 intro t ht;rw [size_flatK] at ht;have ht':t<l.length*k:=by simpa using ht
 refine ⟨?_,hf t⟩;have hk0:0<k:=Nat.pos_of_ne_zero (by rintro rfl;simp at ht');have hi:t / k<l.length:=Nat.div_lt_of_lt_mul (by rw [Nat.mul_comm];exact ht');have hj:t % k<k:=Nat.mod_lt _ hk0;rcases h with ⟨h,_⟩|⟨g',o',c',e,hc,hg,hx⟩
 ·cases h
 injection e with e1 e2 e3;injection e1 with e1;injection e1 with e1 e4;subst e1 e4;rw [get_flatK _ _ _ _ ht];refine hx t _ ?_;have h1:=ygc enc hk l (t / k) (t % k) hi hj;rw [Nat.div_add_mod' t k] at h1;have hj2:t % k<(enc l[t / k]).length:=by rw [hk];exact hj
 rw [h1,List.getElem?_eq_getElem hj2];have e2:l.toArray[t / k]! = l[t / k]:=by rw [getElem!_pos l.toArray (t / k) (by simpa using hi)];simp
 rw [e2,getElem!_pos (enc l[t / k]) (t % k) hj2];rfl
theorem yhQ (hk:∀ x,(enc x).length=k) {w:World} {g o c:Nat} {d:Array α} (h:HoldsK enc k w g o d) (hg:g<w.heap.size) (hc:d.size≤c):RowE enc w (.slice (some ⟨g,o,none⟩) d.size c) d.toList:=by
 refine .inr ⟨g,o,c,by rw [Array.length_toList],by rw [Array.length_toList];exact hc,hg,fun t v hv=>?_⟩
 have ht:t<d.size*k:=by
  have:=(List.getElem?_eq_some_iff.1 hv).1;rw [ydR enc hk,Array.length_toList] at this;exact this
 have hk0:0<k:=Nat.pos_of_ne_zero (by rintro rfl;simp at ht);have hi:t / k<d.size:=Nat.div_lt_of_lt_mul (by rw [Nat.mul_comm];exact ht);have hj:t % k<k:=Nat.mod_lt _ hk0;have h1:=ygc enc hk d.toList (t / k) (t % k) (by simpa using hi) hj;rw [Nat.div_add_mod' t k,hv] at h1;have h2:=(h.cell hi hj).1;rw [Nat.add_assoc,Nat.div_add_mod' t k] at h2;rw [h2];have hj2:t % k<(enc d[t / k]).length:=by rw [hk];exact hj
 have e2:d[t / k]! = d[t / k]:=getElem!_pos d (t / k) hi;rw [e2,getElem!_pos (enc d[t / k]) (t % k) hj2];rw [Array.getElem_toList,List.getElem?_eq_getElem hj2] at h1;exact h1.symm
theorem ydj (w:World) (g o n:Nat) (d:Array α) (os:Array Obj):Keep [g] w (sortWorldK enc k w g o n d os):=by
 refine ⟨rfl,rfl,rfl,?_,?_,?_⟩
 ·unfold sortWorldK grow putRowK
  simp [Go.Sort.ahead]
 ·unfold sortWorldK grow putRowK
  simp [Go.Sort.ahead]
 intro j hj hn;have hne:¬ g=j:=fun e=>hn (by simp [e]);unfold sortWorldK grow putRowK putRow mapBlock Go.Sort.ahead;dsimp only;rw [Array.getElem?_append_left (by simpa using hj),Array.getElem?_modify,if_neg hne]
theorem sort_row (L:SlLaysF0.n6 P ρ) (hk0:0<k) (aE:∀ w,(isAgg (ρ.t 24)).run P w = .ok true w) (zE:∀ w,(Go.sizeOf (ρ.t 24)).run P w = .ok k w) (hk:∀ x,(enc x).length=k) (h1:∀ x,∀ v∈enc x,v.oneCell'=true) (cf:α→α→Int) (hO:SWO (ltOf cf)) (g:Nat)
  (eg:∀ args w,(callFunc g args).run P w = .ok (.enter g args) w) (hcmp:∀ x y w,Calls P g #[.agg (enc x).toArray,.agg (enc y).toArray] w fun e w'=>e = .returned (.int .i64 (cf x y))∧Keep [] w w')
  {w:World} {b o n c:Nat} {l:List α} (h:RowE enc w (.slice (some ⟨b,o,none⟩) n c) l) (hf:∀ j,w.frozen? ⟨b,o+j,none⟩=false) (hsz:l.length<4611686018427387904) :
  Calls P (ρ.f 6) #[.slice (some ⟨b,o,none⟩) n c,.func (.func g) #[] #[]] w fun e w' =>
   e = .returned (.tuple #[])∧∃ l',l'.Perm l∧l'.Pairwise (fun x y=>ltOf cf y x=false)∧RowE enc w' (.slice (some ⟨b,o,none⟩) n c) l'∧Keep [b] w w':=by
 have hH:=yid hk h hf
 have hn:n=l.length∧n≤c∧b<w.heap.size:=by
  rcases h with ⟨h,_⟩|⟨g',o',c',e,hc,hg,hx⟩
  ·cases h
  injection e with e1 e2 e3;injection e1 with e1;injection e1 with e1 e4;subst e1 e2 e3;exact ⟨rfl,hc,hg⟩
 obtain⟨rfl,hnc,hb⟩:=hn
 have hcl:CmpLays P g #[] enc k cf b o l.toArray.size w:=fun m os dk _ x y=>by
  have:=hcmp x y (sortWorldK enc k w b o m dk os);exact this.mono fun e w' ⟨he,hkk⟩=>⟨he,hkk.regrown⟩
 have:=AnyQ.slices_SortFunc L k aE zE enc hk h1 cf hO g #[] b o c l.toArray w eg hcl hH hb (by simpa using hsz);rw [List.size_toArray] at this;refine this.mono ?_;rintro e w' ⟨he,d',m,os,⟨hp1,_,hp2⟩,hs,rfl⟩;have hp1:d'.size=l.length:=by simpa using hp1
 have hp:d'.toList.Perm l:=by
  have e1:d'.extract 0 l.length=d':=by rw [← hp1,Array.extract_size]
  have e2:l.toArray.extract 0 l.length=l.toArray:=by rw [← List.size_toArray,Array.extract_size]
  rw [e1,e2] at hp2
  simpa using hp2
 refine ⟨he,d'.toList,hp,?_,?_,ydj _ _ _ _ _ _⟩
 ·rw [List.pairwise_iff_getElem]
  intro i j hi hj hij;simp only [Array.length_toList] at hi hj;have:=hs i j (Nat.zero_le _) hij (by rw [← hp1];exact hj);rw [getElem!_pos d' j hj,getElem!_pos d' i hi] at this
  simpa using this
 have hh:HoldsK enc k (sortWorldK enc k w b o m d' os) b o d':=by
  unfold sortWorldK;exact holdsK_grow enc k _ os b o d' (by unfold putRowK;simpa [Go.Sort.ahead] using hb) (holdsK_putRowK enc k _ b o l.toArray d' (holdsK_ahead enc k w m b o _ hH) (by simpa using hp1))
 have:=yhQ hk (c:=c) hh (Nat.lt_of_lt_of_le hb (ydj (enc:=enc) (k:=k) w b o m d' os).size) (by omega);rw [hp1] at this;exact this
end
end
theorem yga (x y:K) (w:World):Calls prog 81 #[kv x,kv y] w fun e w'=>e = .returned (.int .i64 (cmpQ x.1 y.1))∧Keep [] w w' :=
 RCompare_c x.1 y.1 ⟨x.2.2.1.mono (by decide),x.2.2.2.mono (by decide)⟩ ⟨y.2.2.1.mono (by decide),y.2.2.2.mono (by decide)⟩ w
theorem yeM (a b:Bd K) (w:World):Calls prog 76 #[bv a,bv b] w fun e w'=>e = .returned (.int .i64 (cmpB a b))∧Keep [] w w':=by
 have H1:=jX (yga a.pt b.pt);have hc:=cmp_tri a.pt b.pt;unfold cmpB;rw [yeC,yeC];rw [ydJ,ydJ] at H1;generalize cmpQ a.pt.1 b.pt.1=n at *;generalize sgB (a.pt.1).p.num=f1 at *;generalize mgS (a.pt.1).p.num=f2 at *;generalize dnS (a.pt.1).p.den=f3 at *;generalize sgB (a.pt.1).r.num=f4 at *;generalize mgS (a.pt.1).r.num=f5 at *;generalize dnS (a.pt.1).r.den=f6 at *;generalize (a.pt.1).neg=f7 at *;generalize sgB (b.pt.1).p.num=t1 at *;generalize mgS (b.pt.1).p.num=t2 at *;generalize dnS (b.pt.1).p.den=t3 at *;generalize sgB (b.pt.1).r.num=t4 at *;generalize mgS (b.pt.1).r.num=t5 at *;generalize dnS (b.pt.1).r.den=t6 at *;generalize (b.pt.1).neg=t7 at *;generalize a.beh=o at *;generalize b.beh=c at *;rcases hc with rfl|rfl|rfl
 ·rw [if_neg (by decide)]
  go_enter func76,ntmps76
  go_upto_region 1 with (fail)
  obtain⟨W,ga,gb,hW,ega,egb,Bga,Bgb,hga,hgb,hgW,HkW⟩:=al2h w (.cells #[.bool f1,.string f2,.bool false,.string f3,.bool f4,.string f5,.bool false,.string f6,.bool f7,.bool o] 114) (.cells #[.bool t1,.string t2,.bool false,.string t3,.bool t4,.string t5,.bool false,.string t6,.bool t7,.bool c] 114);rw [← hW];try rw [egb]
  try rw [ega]
  clear hW ega egb;obtain⟨pga,fga,lga⟩:=jQ Bga;obtain⟨pgb,fgb,lgb⟩:=jQ Bgb;go_wp2_with fail;refine (H1.out _).mono ?_;rintro e w1 ⟨rfl,hk_w1⟩;dsimp only;clear pga fga lga pgb fgb lgb;replace Bga:=jH hk_w1 Bga;replace Bgb:=jH hk_w1 Bgb;replace HkW:=jX (HkW.out.tz hk_w1);clear hk_w1;obtain⟨pga,fga,lga⟩:=jQ Bga;obtain⟨pgb,fgb,lgb⟩:=jQ Bgb;go_wp2_with fail;go_ret
  exact ⟨rfl,by repeat (first|(with_reducible exact HkW.out)|(refine Keep.sP ?_ _ _ _ (by omega))|(refine Keep.aP ?_ _)|(refine Keep.dP ?_))⟩
 ·rw [if_pos rfl]
  cases o<;>cases c
  ·rw [if_pos rfl]
   go_enter func76,ntmps76
   go_upto_region 1 with (fail)
   obtain⟨W,ga,gb,hW,ega,egb,Bga,Bgb,hga,hgb,hgW,HkW⟩:=al2h w (.cells #[.bool f1,.string f2,.bool false,.string f3,.bool f4,.string f5,.bool false,.string f6,.bool f7,.bool false] 114) (.cells #[.bool t1,.string t2,.bool false,.string t3,.bool t4,.string t5,.bool false,.string t6,.bool t7,.bool false] 114);rw [← hW];try rw [egb]
   try rw [ega]
   clear hW ega egb;obtain⟨pga,fga,lga⟩:=jQ Bga;obtain⟨pgb,fgb,lgb⟩:=jQ Bgb;go_wp2_with fail;refine (H1.out _).mono ?_;rintro e w1 ⟨rfl,hk_w1⟩;dsimp only;clear pga fga lga pgb fgb lgb;replace Bga:=jH hk_w1 Bga;replace Bgb:=jH hk_w1 Bgb;replace HkW:=jX (HkW.out.tz hk_w1);clear hk_w1;obtain⟨pga,fga,lga⟩:=jQ Bga;obtain⟨pgb,fgb,lgb⟩:=jQ Bgb;go_wp2_with fail;go_ret
   exact ⟨rfl,by repeat (first|(with_reducible exact HkW.out)|(refine Keep.sP ?_ _ _ _ (by omega))|(refine Keep.aP ?_ _)|(refine Keep.dP ?_))⟩
  ·rw [if_neg (by decide),if_pos rfl]
   go_enter func76,ntmps76
   go_upto_region 1 with (fail)
   obtain⟨W,ga,gb,hW,ega,egb,Bga,Bgb,hga,hgb,hgW,HkW⟩:=al2h w (.cells #[.bool f1,.string f2,.bool false,.string f3,.bool f4,.string f5,.bool false,.string f6,.bool f7,.bool false] 114) (.cells #[.bool t1,.string t2,.bool false,.string t3,.bool t4,.string t5,.bool false,.string t6,.bool t7,.bool true] 114);rw [← hW];try rw [egb]
   try rw [ega]
   clear hW ega egb;obtain⟨pga,fga,lga⟩:=jQ Bga;obtain⟨pgb,fgb,lgb⟩:=jQ Bgb;go_wp2_with fail;refine (H1.out _).mono ?_;rintro e w1 ⟨rfl,hk_w1⟩;dsimp only;clear pga fga lga pgb fgb lgb;replace Bga:=jH hk_w1 Bga;replace Bgb:=jH hk_w1 Bgb;replace HkW:=jX (HkW.out.tz hk_w1);clear hk_w1;obtain⟨pga,fga,lga⟩:=jQ Bga;obtain⟨pgb,fgb,lgb⟩:=jQ Bgb;go_wp2_with fail;go_ret
   exact ⟨rfl,by repeat (first|(with_reducible exact HkW.out)|(refine Keep.sP ?_ _ _ _ (by omega))|(refine Keep.aP ?_ _)|(refine Keep.dP ?_))⟩
  ·rw [if_neg (by decide),if_neg (by decide)]
   go_enter func76,ntmps76
   go_upto_region 1 with (fail)
   obtain⟨W,ga,gb,hW,ega,egb,Bga,Bgb,hga,hgb,hgW,HkW⟩:=al2h w (.cells #[.bool f1,.string f2,.bool false,.string f3,.bool f4,.string f5,.bool false,.string f6,.bool f7,.bool true] 114) (.cells #[.bool t1,.string t2,.bool false,.string t3,.bool t4,.string t5,.bool false,.string t6,.bool t7,.bool false] 114);rw [← hW];try rw [egb]
   try rw [ega]
   clear hW ega egb;obtain⟨pga,fga,lga⟩:=jQ Bga;obtain⟨pgb,fgb,lgb⟩:=jQ Bgb;go_wp2_with fail;refine (H1.out _).mono ?_;rintro e w1 ⟨rfl,hk_w1⟩;dsimp only;clear pga fga lga pgb fgb lgb;replace Bga:=jH hk_w1 Bga;replace Bgb:=jH hk_w1 Bgb;replace HkW:=jX (HkW.out.tz hk_w1);clear hk_w1;obtain⟨pga,fga,lga⟩:=jQ Bga;obtain⟨pgb,fgb,lgb⟩:=jQ Bgb;go_wp2_with fail;go_ret
   exact ⟨rfl,by repeat (first|(with_reducible exact HkW.out)|(refine Keep.sP ?_ _ _ _ (by omega))|(refine Keep.aP ?_ _)|(refine Keep.dP ?_))⟩
  rw [if_pos rfl];go_enter func76,ntmps76
  go_upto_region 1 with (fail)
  obtain⟨W,ga,gb,hW,ega,egb,Bga,Bgb,hga,hgb,hgW,HkW⟩:=al2h w (.cells #[.bool f1,.string f2,.bool false,.string f3,.bool f4,.string f5,.bool false,.string f6,.bool f7,.bool true] 114) (.cells #[.bool t1,.string t2,.bool false,.string t3,.bool t4,.string t5,.bool false,.string t6,.bool t7,.bool true] 114);rw [← hW];try rw [egb]
  try rw [ega]
  clear hW ega egb;obtain⟨pga,fga,lga⟩:=jQ Bga;obtain⟨pgb,fgb,lgb⟩:=jQ Bgb;go_wp2_with fail;refine (H1.out _).mono ?_;rintro e w1 ⟨rfl,hk_w1⟩;dsimp only;clear pga fga lga pgb fgb lgb;replace Bga:=jH hk_w1 Bga;replace Bgb:=jH hk_w1 Bgb;replace HkW:=jX (HkW.out.tz hk_w1);clear hk_w1;obtain⟨pga,fga,lga⟩:=jQ Bga;obtain⟨pgb,fgb,lgb⟩:=jQ Bgb;go_wp2_with fail;go_ret
  exact ⟨rfl,by repeat (first|(with_reducible exact HkW.out)|(refine Keep.sP ?_ _ _ _ (by omega))|(refine Keep.aP ?_ _)|(refine Keep.dP ?_))⟩
 rw [if_neg (by decide)];go_enter func76,ntmps76
 go_upto_region 1 with (fail)
 obtain⟨W,ga,gb,hW,ega,egb,Bga,Bgb,hga,hgb,hgW,HkW⟩:=al2h w (.cells #[.bool f1,.string f2,.bool false,.string f3,.bool f4,.string f5,.bool false,.string f6,.bool f7,.bool o] 114) (.cells #[.bool t1,.string t2,.bool false,.string t3,.bool t4,.string t5,.bool false,.string t6,.bool t7,.bool c] 114);rw [← hW];try rw [egb]
 try rw [ega]
 clear hW ega egb;obtain⟨pga,fga,lga⟩:=jQ Bga;obtain⟨pgb,fgb,lgb⟩:=jQ Bgb;go_wp2_with fail;refine (H1.out _).mono ?_;rintro e w1 ⟨rfl,hk_w1⟩;dsimp only;clear pga fga lga pgb fgb lgb;replace Bga:=jH hk_w1 Bga;replace Bgb:=jH hk_w1 Bgb;replace HkW:=jX (HkW.out.tz hk_w1);clear hk_w1;obtain⟨pga,fga,lga⟩:=jQ Bga;obtain⟨pgb,fgb,lgb⟩:=jQ Bgb;go_wp2_with fail;go_ret
 exact ⟨rfl,by repeat (first|(with_reducible exact HkW.out)|(refine Keep.sP ?_ _ _ _ (by omega))|(refine Keep.aP ?_ _)|(refine Keep.dP ?_))⟩
theorem putAt_size:∀ (vs:List Value) (o:Nat) (cs:Array Value),(ybu cs o vs).size=cs.size
 | [],_,_=>rfl
 | v :: r,o,cs=>by unfold ybu;rw [putAt_size r];simp
theorem set_take (L:List Value) (o:Nat) (v:Value) (h:o<L.length):(L.set o v).take (o+1)=L.take o++[v]:=by
 rw [List.take_succ_eq_append_getElem (by simpa using h),List.take_set_of_le (Nat.le_refl _),List.getElem_set_self]
theorem putAt_list:∀ (vs:List Value) (o:Nat) (cs:Array Value),o+vs.length≤cs.size→(ybu cs o vs).toList=cs.toList.take o++vs++cs.toList.drop (o+vs.length)
 | [],o,cs,h=>by unfold ybu;simp
 | v :: r,o,cs,h=>by
  have ho:o<cs.toList.length:=by simp at h ⊢;omega
  unfold ybu;rw [putAt_list r (o+1) _ (by simp at h ⊢;omega),Array.toList_setIfInBounds,set_take _ _ _ ho,List.drop_set_of_lt (by omega),List.length_cons,List.append_assoc,List.append_assoc,List.append_assoc];have e:o+1+r.length=o+(r.length+1):=by omega
  rw [e];rfl
def setL (xs:List Value) (o:Nat) (vs:List Value):List Value:=xs.take o++vs++xs.drop (o+vs.length)
theorem setL_len {xs vs:List Value} {o:Nat} (h:o+vs.length≤xs.length):(setL xs o vs).length=xs.length:=by
 unfold setL;rw [List.length_append,List.length_append,List.length_take,List.length_drop];omega
theorem ycI {w:World} {e:TypeId} {k n g c:Nat} {xs vs:List Value} {o:Nat} (h:w.ownsRow 0 e k (.slice (some ⟨g,0,none⟩) n c) n xs) (ho:o+vs.length≤n*k) :
  (w.setCells g o vs).ownsRow 0 e k (.slice (some ⟨g,0,none⟩) n c) n (setL xs o vs)∧Keep [g] w (w.setCells g o vs):=by
 have hx:=h.1;rcases h.2 with ⟨hv,_⟩|⟨g',cap,cur,hv,hb,hg,hnc,hcm,hcs,htake⟩
 ·cases hv
 injection hv with e1 e2 e3;injection e1 with e1;injection e1 with e1;subst e1 e3;obtain⟨h1,h2⟩:=yav vs o cur w hg;have hle:n*k≤c*k:=Nat.mul_le_mul_right _ hnc;refine ⟨⟨by rw [setL_len (by omega)];exact hx,.inr ⟨g,c,_,rfl,hb,h1,hnc,hcm,by rw [putAt_size];exact hcs,?_⟩⟩,h2⟩;rw [putAt_list vs o cur (by omega),← htake];have hl:cur.toList.length=c*k:=by simpa using hcs
 unfold setL;rw [List.take_append,List.take_append,List.take_of_length_le (l:=cur.toList.take o) (by rw [List.length_take];omega),List.take_of_length_le (l:=vs) (by rw [List.length_take];omega),List.take_take,Nat.min_eq_left (by omega),List.drop_take,List.length_append,List.length_take,Nat.min_eq_left (by omega)]
theorem ygR {w:World} {e:TypeId} {k n g c:Nat} {xs:List Value} {o m:Nat} (h:w.ownsRow 0 e k (.slice (some ⟨g,0,none⟩) n c) n xs) (ho:o+m≤n*k):w.there g o m:=by
 rcases h.2 with ⟨hv,_⟩|⟨g',cap,cur,hv,hb,hg,hnc,hcm,hcs,htake⟩
 ·cases hv
 injection hv with e1 e2 e3;injection e1 with e1;injection e1 with e1;subst e1 e3;have hle:n*k≤c*k:=Nat.mul_le_mul_right _ hnc;exact yaZ hg o m (by omega)
theorem yer {P:Program} {ops:Array Oper} {rest:List Oper} {o:Oper} {a:Act} {w:World} {Q:Exit→Act→World→Prop} (hgd:o.guard=none) (ty:TypeId) (x y:Operand) (ho:o.op = .store ty x y)
  (b i:Nat) (v:Value) (hx:a.eval x = .pointer (some ⟨b,i,none⟩)) (hy:a.eval y=v) (h1:v.oneCell'=true) (ht:w.there b i 1) (hi:(P.info? ty).map (·.size)=some 1)
  (h:∀ K:Act→World→Prop,(∀ a w,wpList P ops Q rest a w→K a w)→K (a.put o.dst undef) (w.setCells b i [v])):wpList P ops Q (o :: rest) a w :=
 wpList_plain hgd fun K hK=>by
  have hs:(storeVar ty ⟨b,i,none⟩ v).run P w = .ok () (w.setCells b i [v]):=by
   have:=run_storeCells_cells (P:=P) b i [v] 0 w (fun j hj=>by simpa using (ht j (by simpa using hj)).1) (fun j hj=>by simpa using (ht j (by simpa using hj)).2) (fun u hu=>by simp at hu;subst hu;exact h1);have hc:v.cells = #[v]:=by cases v<;>first|rfl|cases h1
   cases hq:P.info? ty with
   | none=>simp [hq] at hi
   | some i =>
    have hs:i.size=1:=by simpa [hq] using hi
    simp only [Nat.add_zero] at this;simp [storeVar,sizeOf,typeInfo,hq,hc,hs,this]
  unfold Oper.wp execOp;simp only [ho,hx,hy,Instr.storeAt,Instr.sureAddr,Sem.run_bind,Sem.run_pure,Result.andThen_ok,hs];exact h K hK
def evcells (e:Ev K):List Value:=bcells e.at_++[.int .i64 e.x,.int .i64 e.y]
theorem ydm (e:Ev K):(evcells e).length=12:=rfl
theorem yfW (b:Bd K):∀ v∈bcells b,v.oneCell'=true:=by
 intro v hv;unfold bcells at hv;rcases List.mem_append.1 hv with hv|hv
 ·exact ybW _ v hv
 simp only [List.mem_cons,List.not_mem_nil,or_false] at hv;subst hv;rfl
theorem ydo (e:Ev K):∀ v∈evcells e,v.oneCell'=true:=by
 intro v hv;unfold evcells at hv;rcases List.mem_append.1 hv with hv|hv
 ·exact yfW _ v hv
 simp only [List.mem_cons,List.not_mem_nil,or_false] at hv;rcases hv with rfl|rfl<;>rfl
def eC (e:Ev K):Array Value:=(evcells e).toArray
def evv (e:Ev K):Value:=.agg (eC e)
theorem infoEv:∃ ie,prog.info? 183=some ie∧ie.size=12:=by
 have h:(prog.info? 183).map (·.size)=some 12:=by kernel_rfl
 cases hi:prog.info? 183 with
 | none=>rw [hi] at h;cases h
 | some ie=>rw [hi] at h;exact ⟨ie,rfl,by simpa using h⟩
theorem infoBd:∃ ie,prog.info? 114=some ie∧ie.size=10:=by
 have h:(prog.info? 114).map (·.size)=some 10:=by kernel_rfl
 cases hi:prog.info? 114 with
 | none=>rw [hi] at h;cases h
 | some ie=>rw [hi] at h;exact ⟨ie,rfl,by simpa using h⟩
theorem ycR (w:World) (b o:Nat) (x:Bd K) (hc:∀ k v,(bcells x)[k]? = some v→w.cell? ⟨b,o+k,none⟩=some v):(loadVar 114 ⟨b,o,none⟩).run prog w = .ok (bv x) w:=by
 obtain⟨ie,hie,hs⟩:=infoBd;exact Go.Lib.rl_loadVar_cells 114 ie hie isAgg114 b o (bcells x) (by rw [hs];rfl) w hc
theorem yhy (w:World) (b o:Nat) (x:Ev K) (hc:∀ k v,(evcells x)[k]? = some v→w.cell? ⟨b,o+k,none⟩=some v):(loadVar 183 ⟨b,o,none⟩).run prog w = .ok (evv x) w:=by
 obtain⟨ie,hie,hs⟩:=infoEv;exact Go.Lib.rl_loadVar_cells 183 ie hie isAgg183 b o (evcells x) (by rw [hs];rfl) w hc
def EvAt (w:World) (b o:Nat) (x:Ev K):Prop:=∀ k v,(evcells x)[k]? = some v→w.cell? ⟨b,o+k,none⟩=some v
def BAt (w:World) (b o:Nat) (x:Bd K):Prop:=∀ k v,(bcells x)[k]? = some v→w.cell? ⟨b,o+k,none⟩=some v
theorem EvAt.bd {w:World} {b o:Nat} {x:Ev K} (h:EvAt w b o x):BAt w b o x.at_:=fun k v hk=>by
 refine h k v ?_;unfold evcells;rw [List.getElem?_append_left (List.getElem?_eq_some_iff.1 hk).1];exact hk
theorem EvAt.x {w:World} {b o:Nat} {x:Ev K} (h:EvAt w b o x):w.cell? ⟨b,o+10,none⟩=some (.int .i64 x.x):=h 10 _ rfl
theorem EvAt.y {w:World} {b o:Nat} {x:Ev K} (h:EvAt w b o x):w.cell? ⟨b,o+11,none⟩=some (.int .i64 x.y):=h 11 _ rfl
theorem EvAt.keep {w w':World} {b o:Nat} {x:Ev K} (h:EvAt w b o x) (hb:w'.heap[b]? = w.heap[b]?):EvAt w' b o x:=fun k v hk=>by
 rw [World.cell?_of_block hb];exact h k v hk
theorem BAt.keep {w w':World} {b o:Nat} {x:Bd K} (h:BAt w b o x) (hb:w'.heap[b]? = w.heap[b]?):BAt w' b o x:=fun k v hk=>by
 rw [World.cell?_of_block hb];exact h k v hk
theorem ybT {w:World} {g:Nat} {x:Ev K} {t:TypeId} (h:w.heap[g]? = some (.cells (eC x) t)):EvAt w g 0 x:=fun k v hk=>by
 rw [Nat.zero_add,yab h];exact (List.getElem?_toArray ..).trans hk
theorem bAt_box {w:World} {g:Nat} {x:Bd K} {t:TypeId} (h:w.heap[g]? = some (.cells (bC x) t)):BAt w g 0 x:=fun k v hk=>by
 rw [Nat.zero_add,yab h];exact (List.getElem?_toArray ..).trans hk
abbrev EvR:=RowE (fun e:Ev K=>evcells e)
abbrev OV_:=OE (fun e:Ev K=>evcells e) 183 12
theorem EvR.elem {w:World} {a:Option Addr} {n c:Nat} {l:List (Ev K)} (h:EvR w (.slice a n c) l) (i:Nat) (hi:i<l.length):∃ g o,a=some ⟨g,o,none⟩∧g<w.heap.size∧EvAt w g (o+i*12) l[i]:=RowE.elem ydm h i hi
theorem yhX (f1 f4 f7 o:Bool) (f2 f3 f5 f6:ByteArray):prog.built 183 [(0,.agg #[.bool f1,.string f2,.bool false,.string f3,.bool f4,.string f5,.bool false,.string f6,.bool f7,.bool o])]=some #[.bool f1,.string f2,.bool false,.string f3,.bool f4,.string f5,.bool false,.string f6,.bool f7,.bool o,.int .i64 0,.int .i64 0]:=by kernel_rfl
theorem yes (b:Bd K):prog.built 183 [(0,bv b)]=some (eC ⟨b,0,0⟩):=yhX _ _ _ _ _ _ _ _
theorem infoEvB:(prog.info? 183).map (fun i=>(i.zero.map Value.cells,i.size,i.bytes))=some (some #[.bool false,.string ⟨#[]⟩,.bool false,.string ⟨#[]⟩,.bool false,.string ⟨#[]⟩,.bool false,.string ⟨#[]⟩,.bool false,.bool false,.int .i64 0,.int .i64 0],12,128):=by kernel_rfl
theorem ev_info:∃ i z,prog.info? 183=some i∧i.zero=some z∧i.size=12∧i.bytes=128∧z.cells = #[.bool false,.string ⟨#[]⟩,.bool false,.string ⟨#[]⟩,.bool false,.string ⟨#[]⟩,.bool false,.string ⟨#[]⟩,.bool false,.bool false,.int .i64 0,.int .i64 0]:=by
 have h:=infoEvB;cases hi:prog.info? 183 with
 | none=>rw [hi] at h;cases h
 | some i =>
  rw [hi] at h;simp only [Option.map_some,Option.some.injEq,Prod.mk.injEq] at h;obtain⟨h1,h2,h3⟩:=h;cases hz:i.zero with
  | none=>rw [hz] at h1;cases h1
  | some z =>
   rw [hz] at h1;injection h1 with h1;exact ⟨i,z,rfl,hz,h2,h3,h1⟩
theorem fill_ev2 (b1 b4 b7 b8 d1 d4 d7 d8:Bool) (s2 s3 s5 s6 t2 t3 t5 t6:ByteArray) (x y u v:Int):Instr.fill (fun i=>some (i*12,12)) ((Array.range (2*12)).map ((#[.bool false,.string ⟨#[]⟩,.bool false,.string ⟨#[]⟩,.bool false,.string ⟨#[]⟩,.bool false,.string ⟨#[]⟩,.bool false,.bool false,.int .i64 0,.int .i64 0]:Array Value)[· % (#[.bool false,.string ⟨#[]⟩,.bool false,.string ⟨#[]⟩,.bool false,.string ⟨#[]⟩,.bool false,.string ⟨#[]⟩,.bool false,.bool false,.int .i64 0,.int .i64 0]:Array Value).size]!))
  #[(0, Value.agg #[.bool b1, .string s2, .bool false, .string s3, .bool b4, .string s5, .bool false, .string s6, .bool b7, .bool b8, .int .i64 x, .int .i64 y]), (1, Value.agg #[.bool d1, .string t2, .bool false, .string t3, .bool d4, .string t5, .bool false, .string t6, .bool d7, .bool d8, .int .i64 u, .int .i64 v])].toList = some #[.bool b1, .string s2, .bool false, .string s3, .bool b4, .string s5, .bool false, .string s6, .bool b7, .bool b8, .int .i64 x, .int .i64 y, .bool d1, .string t2, .bool false, .string t3, .bool d4, .string t5, .bool false, .string t6, .bool d7, .bool d8, .int .i64 u, .int .i64 v] := by kernel_rfl
theorem yiU (e:Ev K):evv e = .agg #[.bool (sgB e.at_.pt.1.p.num),.string (mgS e.at_.pt.1.p.num),.bool false,.string (dnS e.at_.pt.1.p.den),.bool (sgB e.at_.pt.1.r.num),.string (mgS e.at_.pt.1.r.num),.bool false,.string (dnS e.at_.pt.1.r.den),.bool e.at_.pt.1.neg,.bool e.at_.beh,.int .i64 e.x,.int .i64 e.y]:=rfl
theorem build2_e (x y:Ev K) (w:World):(Instr.buildSlice 180 2 #[(0,evv x),(1,evv y)]).run prog w = .ok (.slice (some ⟨w.heap.size,0,none⟩) 2 2) (w.alloc (.cells (evcells x++evcells y).toArray 183)):=by
 obtain⟨i,z,hi,hz,hs,hb,hzc⟩:=ev_info;refine run_buildSlice (P:=prog) w 180 183 2 _ _ i z underlying180 hi hz (by rw [hs];decide) (by rw [hs];decide) ?_;rw [hs,hzc,yiU,yiU];exact fill_ev2 _ _ _ _ _ _ _ _ _ _ _ _ _ _ _ _ _ _ _ _
theorem EvR.pair (x y:Ev K) (w:World):∃ u g,w.alloc (.cells (evcells x++evcells y).toArray 183)=u∧w.heap.size=g∧u.heap.size=g+1∧Keep [] w u∧EvR u (.slice (some ⟨g,0,none⟩) 2 2) [x,y]:=by
 refine ⟨_,_,rfl,rfl,by simp,Keep.alloc [] w _,.inr ⟨w.heap.size,0,2,rfl,Nat.le_refl _,by simp,fun i v hv=>?_⟩⟩;rw [Nat.zero_add,yab (World.alloc_heap_new w _)];exact (List.getElem?_toArray ..).trans (by simpa using hv)
theorem EvR.app {ty:TypeId} {w0 w:World} {v y:Value} {l m:List (Ev K)} (h:OV_ w0 w v l) (hv:v.ownBlock≠none∨0<m.length) (hy:EvR w y m) (hb:l.length+m.length≤1000000000) :
  ∃ v' w',(Builtin.append_ #[180,180] ty #[v,y]).run prog w = .ok v' w'∧OV_ w0 w' v' (l++m)∧v'.ownBlock≠none∧∀ F,(∀ g,v.ownBlock=some g→g∈F)→Keep F w w':=by
 obtain⟨i,z,hi,hz,hs,hbt,hzc⟩:=ev_info;exact OE.app (P:=prog) (bytes:=128) underlying180 hi hz hs hbt (by rw [hzc];rfl) (by decide) ydm ydo h hv hy (by unfold maxLen;omega) (by omega)
theorem yhM (x:Ev K):(prog.info? 183).map (·.size)=some (eC x).size:=by
 obtain⟨i,z,hi,hz,hs,hb,hzc⟩:=ev_info;rw [hi];exact congrArg some hs
theorem bd_size (x:Bd K):(prog.info? 114).map (·.size)=some (bC x).size:=by
 obtain⟨ie,hie,hs⟩:=infoBd;rw [hie];exact congrArg some hs
theorem yhz (x:Ev K):(eC x).all (·.oneCell')=true:=all_oneCell_toArray (ydo x)
theorem bd_ones (x:Bd K):(bC x).all (·.oneCell')=true:=all_oneCell_toArray (yfW x)
theorem put_ev (b:Bd K) (k:Nat) (hk:k<2) (n:Int):ybu (eC ⟨b,0,0⟩) (10+k) [.int .i64 n]=eC ⟨b,if k=0 then n else 0,if k=0 then 0 else n⟩:=by
 rcases k with _|_|k
 ·rfl
 ·rfl
 omega
theorem evcmp_c (x y:Ev K) (w:World):Calls prog 163 #[.agg (eC x),.agg (eC y)] w fun e w'=>e = .returned (.int .i64 (cmpB x.at_ y.at_))∧Keep [] w w':=by
 have HX:=jX (fun w g (h:w.heap[g]? = some (.cells (eC x) 183))=>ycR w g 0 x.at_ (ybT h).bd);have HY:=jX (fun w g (h:w.heap[g]? = some (.cells (eC y) 183))=>ycR w g 0 y.at_ (ybT h).bd);have HC:=jX (yeM x.at_ y.at_);generalize eC x=X at *;generalize eC y=Y at *;go_enter func163,ntmps163
 go_upto_region 1 with (fail)
 obtain⟨W,ga,gb,hW,ega,egb,Bga,Bgb,hga,hgb,hgW,HkW⟩:=al2h w (.cells X 183) (.cells Y 183);rw [← hW];try rw [egb]
 try rw [ega]
 clear hW ega egb;have La:=HX.out _ _ Bga.out;have Lb:=HY.out _ _ Bgb.out;refine wp_region_lit ?_;refine wV (fun K hK=>?_);go_simp;refine hK _ ?_;clear hK K;refine wX (v:=bv x.at_) ⟨ga,0,none⟩ (La) (fun K hK=>?_);go_simp;refine hK _ ?_;clear hK K;refine wV (fun K hK=>?_);go_simp;refine hK _ ?_;clear hK K;refine wX (v:=bv y.at_) ⟨gb,0,none⟩ (Lb) (fun K hK=>?_);go_simp;refine hK _ ?_;clear hK K;refine wpList_plain (by rfl) (fun K hK=>?_);refine yaf 76 #[bv x.at_,bv y.at_] (by go_simp) ?_;refine (HC.out _).mono ?_;rintro e w5 ⟨rfl,hk5⟩;refine ⟨_,rfl,?_⟩;go_simp;refine hK _ _ ?_;clear hK K La Lb;have HkZ:=jX (HkW.out.tz hk5);go_wp2_with fail;go_ret
 exact ⟨rfl,HkZ.out⟩
end Go.Proofs.YtpgffjjpiafhpaaGreatDoor
