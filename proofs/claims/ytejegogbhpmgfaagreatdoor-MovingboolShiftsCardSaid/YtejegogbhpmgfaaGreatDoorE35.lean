/- Parts of a proof: Ml Mm Vl Vm Vn. -/
import Derived.Test.YtejegogbhpmgfaaGreatDoorE34
import Derived.Test.YtejegogbhpmgfaaGreatDoorE29
import Derived.Test.YtejegogbhpmgfaaGreatDoorE16
import Derived.Test.YtejegogbhpmgfaaGreatDoorE15
import Derived.Test.YtejegogbhpmgfaaGreatDoorE18
import Derived.Test.YtejegogbhpmgfaaGreatDoorE31
set_option linter.unusedVariables false
set_option linter.unusedSimpArgs false
set_option linter.unusedSectionVars false
set_option maxRecDepth 100000
set_option maxHeartbeats 8000000
namespace Go.Proofs.YtejegogbhpmgfaaGreatDoor
open Go.RowKit Tryz
section
open Classical
section
variable {S:List K} {w0 w w' W V:World} {L M:List (Value × List (Iv K))}
theorem MP.re (h:MP S V w L) (hk:Keep [] W w):MP S W w L:=⟨⟨hk,h.mi.2⟩,h.per,h.few⟩
theorem MP.put (h:MP S V w L) {g:Nat} {cs:Array Value} {t:TypeId} (hb:w.heap[g]? = some (.cells cs t)) (hs:cs.size<20) (hk:Keep [g] w w') (hg:V.heap.size≤g):MP S V w' L :=
 ⟨⟨h.keep.trans hk (by simp;exact hg),fun p hp=>(h.mi.2 p hp).laterBox hb hs hk⟩,h.per,h.few⟩
theorem yhY (ev:Operand→Value) (w:World) (o:Oper) (ho:o.op = .alloc 29):(execOp ev o).run prog w = .ok (.value (.pointer (some ⟨w.heap.size,0,none⟩))) (w.alloc (.cells #[.slice none 0 0,.slice none 0 0] 29)):=by
 have e:(zeroValue 29).run prog w = .ok (.agg #[.slice none 0 0,.slice none 0 0]) w:=by go_simp
 unfold execOp;simp only [ho];unfold Instr.alloc;simp only [Sem.run_bind,e,Result.andThen_ok];rfl
theorem b_size:(prog.info? 29).map (·.size)=some 2:=by
 kernel_rfl
theorem MP.lbool (h:MP S w0 w L) {dl tl:List SpanA} {dv tv:Value} (hd:SpQ w0 dv dl) (ht:SpQ w0 tv tl) (h9:dl.length≤9223372036854775807) (h8:tl.length≤9223372036854775807) (hS:∀ x∈ptsL (ivsOf dl),x∈S) (hS2:∀ x∈ptsL (ivsOf tl),x∈S) :
  Calls prog 15 #[.agg #[dv,tv]] w (BolPost S w0 L (ydS dl) (yaz 2 (ydS tl) (ydS dl))):=by
 have H0:=jX h;have HA:=jX (fun b u M (hk:Keep [] w0 b) (h:MP S b u M)=>h.period (hd.later hk) h9 hS);have HB:=jX (fun b u M (hk:Keep [] w0 b) (h:MP S b u M)=>h.period (ht.later hk) h8 hS2);obtain⟨ao,ac,rfl,_⟩:=hd;obtain⟨bo,bc,rfl,_⟩:=ht;clear h h9 h8 hS hS2;generalize ydS dl=D at *;generalize ydS tl=T at *;go_enter func15,ntmps15
 go_upto_region 1 with (fail)
 obtain⟨W,ga,gb,hW,ega,egb,Bga,Bgb,hga,hgb,hgW,HkW⟩:=al2h w (.cells #[.slice ao dl.length ac,.slice bo tl.length bc] 24) (.cells #[.slice none 0 0,.slice none 0 0] 29);rw [← hW];try rw [egb]
 try rw [ega]
 clear hW ega egb;have HM:=jX (H0.out.here.move HkW.out).here;have HK0:=jX (H0.out.keep.tz HkW.out);refine yaj (S:=fun u=>Keep [] W u) 7 (by kernel_rfl) (by kernel_rfl) (fun _ _ d _ _ h=>by cases d<;>exact h) ?_;have HM:=jX (HM.out.move (Keep.drew [] W));generalize World.drew W=u at *;have hS0:=HM.out.keep;refine' jV (v:=_) 0 hS0 (fun w hw=>?hf0) (fun K hK=>?kf0)
 case hf0=>(have pga:=yaa (hw.heap Bga.out (by simp));go_simp;try rfl)
 go_simp;refine hK _ ?_;clear hK K;refine' jV (v:=_) 1 hS0 (fun w hw=>?hf1) (fun K hK=>?kf1)
 case hf1=>(have pga:=yaa (hw.heap Bga.out (by simp));go_simp;try rfl)
 go_simp;refine hK _ ?_;clear hK K;refine' jV (v:=_) 3 hS0 (fun w hw=>?hf3) (fun K hK=>?kf3)
 case hf3=>(have pga:=yaa (hw.heap Bga.out (by simp));go_simp;try rfl)
 go_simp;refine hK _ ?_;clear hK K;refine' jV (v:=_) 4 hS0 (fun w hw=>?hf4) (fun K hK=>?kf4)
 case hf4=>(have pga:=yaa (hw.heap Bga.out (by simp));go_simp;try rfl)
 go_simp;refine hK _ ?_;clear hK K;refine jO 2 (fun K hK=>?_);refine yae 45 #[.slice ao dl.length ac] (by go_simp) ?_;refine (HA.out _ _ _ HK0.out HM.out).mono ?_;rintro e w1 ⟨vo_w1,vc_w1,rfl,hm_w1⟩;have HM:=jX hm_w1;clear hm_w1;refine ⟨_,rfl,?_⟩;have hS0:=HM.out.keep;go_simp;refine hK _ _ hS0 ?_;clear hK K;refine jO 5 (fun K hK=>?_);refine yae 45 #[.slice bo tl.length bc] (by go_simp) ?_;refine (HB.out _ _ _ HK0.out HM.out).mono ?_;rintro e w2 ⟨vo_w2,vc_w2,rfl,hm_w2⟩;have HM:=jX hm_w2;clear hm_w2;refine ⟨_,rfl,?_⟩;have hS0:=HM.out.keep;go_simp;refine hK _ _ hS0 ?_;clear hK K;refine jO 6 (fun K hK=>?_);refine yae 60 #[.slice vo_w1 D.length vc_w1,.slice vo_w2 T.length vc_w2] (by go_simp) ?_;refine (HM.out.rmake (D:=D) (T:=T) (by simp) (by simp)).mono ?_;rintro e w3 ⟨da_w3,dc_w3,ta_w3,tc_w3,rfl,hm_w3⟩;have HM:=jX hm_w3;clear hm_w3;refine ⟨_,rfl,?_⟩;have hS0:=HM.out.keep;go_simp;refine hK _ _ hS0 ?_;clear hK K;refine ⟨by kernel_rfl,?_⟩;simp only [List.drop_succ_cons,List.drop_zero];have bz:=jX (HM.out.keep.heap Bgb.out (by simp));have pgb:=yaa bz.out;have fgb:=yaf bz.out;have lgb:=yab bz.out;go_wp2_with fail;obtain⟨u9,e9,b9,k9⟩:=st2 (x:=.slice da_w3 D.length dc_w3) (y:=.slice ta_w3 (yaz 2 T D).length tc_w3) bz.out;rw [← e9];clear e9 pgb fgb lgb;have pgb:=yaa b9;refine bodyPost_ret (v:=.agg #[.slice da_w3 D.length dc_w3,.slice ta_w3 (yaz 2 T D).length tc_w3]) ?_ rfl ⟨_,_,_,_,rfl,MP.fin H0.out.keep HkW.out HM.out bz.out (by simp) (by omega) k9 ?_⟩
 ·rw [yag rfl];go_simp
 intro p hp;simp only [List.mem_cons] at hp ⊢;grind
end
theorem lreal_c (a:InsA) (w:World):Calls prog 16 #[a.v] w fun e w'=>e = .returned (kv a.k)∧Keep [] w w':=by
 have HI:=jX (yeK a);have hv:a.v = .agg #[.int .u8 a.P,.int .u8 a.D,.int .u8 a.R,.int .u8 a.E,.bool a.neg]:=rfl;rw [hv] at HI ⊢;generalize (a.P:Int)=P1 at *;generalize (a.D:Int)=P2 at *;generalize (a.R:Int)=P3 at *;generalize (a.E:Int)=P4 at *;generalize a.neg=P5 at *;generalize a.k=t at *;go_enter func16,ntmps16
 go_upto_region 1 with (fail)
 obtain⟨W,ga,gb,hW,ega,egb,Bga,Bgb,hga,hgb,hgW,HkW⟩:=al2h w (.cells #[.int .u8 P1,.int .u8 P2,.int .u8 P3,.int .u8 P4,.bool P5] 26) (.cells #[.bool false,.string ⟨#[]⟩,.bool false,.string ⟨#[]⟩,.bool false,.string ⟨#[]⟩,.bool false,.string ⟨#[]⟩,.bool false] 36);rw [← hW];try rw [egb]
 try rw [ega]
 clear hW ega egb;have pga:=yaa Bga.out;refine wp_region_lit ?_;refine' yad (v:=_) (by rfl) (?ha) (fun K hK=>?ka)
 case ha=>(go_simp;try rfl)
 go_simp;refine hK _ _ ?_;clear hK K;refine wpList_plain (by rfl) (fun K hK=>?_);refine yae 64 #[.agg #[.int .u8 P1,.int .u8 P2,.int .u8 P3,.int .u8 P4,.bool P5]] (by go_simp) ?_;refine (HI.out _).mono ?_;rintro e w2 ⟨rfl,hk2⟩;refine ⟨_,rfl,?_⟩;go_simp;refine hK _ _ ?_;clear hK K pga;have Bz:=jX (hk2.heap Bgb.out (by simp));refine yal (by rfl) _ _ _ rfl gb (kC t) rfl rfl _ _ Bz.out (by exact k_size) (by rfl) (all_oneCell_toArray (yaG t.1)) (fun K hK=>?_);obtain⟨w4,e4,b4,k4⟩:=yam (cs:=kC t) Bz.out;rw [e4];go_simp;refine hK _ _ ?_;clear hK K e4;have HL:=jX (yap w4 gb 0 t.1 (ybP b4));have HkZ:=jX ((HkW.out.tz hk2).trans k4 (by simp;omega));clear b4 k4;go_wp2_with fail;refine bodyPost_ret (v:=kv t) ?_ rfl ⟨rfl,HkZ.out⟩;rw [yag rfl];change ((loadVar 36 ⟨gb,0,none⟩).run prog w4)=_;rw [HL.out];rfl
end
section
open Classical
theorem b_one (a b:Option Addr) (m n k l:Nat):(#[.slice a m k,.slice b n l]:Array Value).all (·.oneCell')=true:=by simp [Value.oneCell']
theorem st2b {w:World} {g:Nat} {a b y:Value} {t:TypeId} (h:w.heap[g]? = some (.cells #[a,b] t (0,0))) :
  ∃ W,W=w.setCell ⟨g,1,none⟩ y∧W.heap[g]? = some (.cells #[a,y] t (0,0))∧Keep [g] w W :=
 ⟨_,rfl,set_same h 1 y,Keep.setCell [g] w g 1 y (by simp)⟩
section
variable {S:List K} {w0 w w' W:World} {L M:List (Value × List (Iv K))} {D T E U P:List (Iv K)} {da ta ea ua pa:Option Addr} {dc tc ec uc pc:Nat}
end
end
section
open Go.RowKit Go.Sort Go.Shelf
section
variable {P:Program} {ρ:Ren} {α:Type} [Inhabited α] {enc:α→List Value} {k:Nat}
theorem ygs (off:Nat) (d:Array Value) (c:Array Value):(putCells id off d c).size=c.size:=by unfold putCells;simp
theorem yjk (w:World) (g o n:Nat) (d:Array α) (os:Array Obj) {cur:Array Value} {e:TypeId} (h:w.heap[g]? = some (.cells cur e (0,0))) :
  ∃ cur':Array Value,cur'.size=cur.size∧(sortWorldK enc k w g o n d os).heap[g]? = some (.cells cur' e (0,0)):=by
 refine ⟨putCells id o (flatK enc k d) cur,ygs _ _ _,?_⟩;have hg:=yab h;unfold sortWorldK grow putRowK putRow mapBlock Go.Sort.ahead;dsimp only;rw [Array.getElem?_append_left (by simpa using hg),Array.getElem?_modify,if_pos rfl,h];rfl
theorem yhN {w:World} {g c n:Nat} {e:TypeId} {cur:Array Value} {l:List α} (hk:∀ x,(enc x).length=k) (hn:n=l.length) (hr:RowE enc w (.slice (some ⟨g,0,none⟩) n c) l) (hg:w.heap[g]? = some (.cells cur e (0,0))) (hnc:n≤c) (hcm:c≤maxLen) (hcs:cur.size=c*k) :
  w.ownsRow 0 e k (.slice (some ⟨g,0,none⟩) n c) n (l.flatMap enc):=by
 have hlen:(l.flatMap enc).length=n*k:=by rw [yby enc hk,hn]
 refine ⟨hlen,.inr ⟨g,c,cur,rfl,Nat.zero_le _,hg,hnc,hcm,hcs,?_⟩⟩;rcases hr with ⟨hv,_⟩|⟨g',o',c',hv,_,_,hx⟩
 ·cases hv
 injection hv with e1 e2 e3;injection e1 with e1;injection e1 with e1 e4;subst e1 e4;have hle:n*k≤c*k:=Nat.mul_le_mul_right _ hnc;refine List.ext_getElem? fun i=>?_;by_cases hi:i<n*k
 ·rw [List.getElem?_take_of_lt hi]
  have hi2:i<(l.flatMap enc).length:=by omega
  have h1:=hx i _ (List.getElem?_eq_getElem hi2);rw [Nat.zero_add,yaa hg] at h1;rw [List.getElem?_eq_getElem hi2,← h1];simp
 rw [List.getElem?_eq_none (by rw [List.length_take];omega),List.getElem?_eq_none (by omega)]
theorem sort_own (L:SlLaysF0.n6 P ρ) (hk0:0<k) (aE:∀ w,(isAgg (ρ.t 24)).run P w = .ok true w) (zE:∀ w,(Go.sizeOf (ρ.t 24)).run P w = .ok k w) (hk:∀ x,(enc x).length=k) (h1:∀ x,∀ v∈enc x,v.oneCell'=true) (cf:α→α→Int) (hO:SWO (ltOf cf)) (g:Nat)
  (eg:∀ args w,(callFunc g args).run P w = .ok (.enter g args) w) (hcmp:∀ x y w,Calls P g #[.agg (enc x).toArray,.agg (enc y).toArray] w fun e w'=>e = .returned (.int .i64 (cf x y))∧Keep [] w w')
  {w0 w:World} {b n c:Nat} {e:TypeId} {l:List α} (h:OE enc e k w0 w (.slice (some ⟨b,0,none⟩) n c) l) (hsz:l.length<4611686018427387904) :
  Calls P (ρ.f 6) #[.slice (some ⟨b,0,none⟩) n c,.func (.func g) #[] #[]] w fun ex w' =>
   ex = .returned (.tuple #[])∧∃ l',l'.Perm l∧l'.Pairwise (fun x y=>ltOf cf y x=false)∧OE enc e k w0 w' (.slice (some ⟨b,0,none⟩) n c) l':=by
 have hr:=h.read;have hf:∀ j,w.frozen? ⟨b,0+j,none⟩=false:=fun j=>by rw [Nat.zero_add];exact own_fz h.row b rfl j
 have hn:n=l.length:=by
  obtain⟨po,pc,e⟩:=h.form;injection e
 subst hn;rcases h.row.2 with ⟨hv,_⟩|⟨b',c',cur,hv,_,hg,hnc,hcm,hcs,_⟩
 ·cases hv
 injection hv with e1 e2 e3;injection e1 with e1;injection e1 with e1;subst e1 e3;have hb:=yab hg;have hH:=yeS hk hr hf
 have hcl:CmpLays P g #[] enc k cf b 0 l.toArray.size w:=fun m os dk _ x y=>by
  have:=hcmp x y (sortWorldK enc k w b 0 m dk os);exact this.mono fun e w' ⟨he,hkk⟩=>⟨he,hkk.regrown⟩
 have:=AnyQ.slices_SortFunc L k aE zE enc hk h1 cf hO g #[] b 0 c l.toArray w eg hcl hH hb (by simpa using hsz);rw [List.size_toArray] at this;refine this.mono ?_;rintro ex w' ⟨he,d',m,os,⟨hp1,_,hp2⟩,hs,rfl⟩;have hp1:d'.size=l.length:=by simpa using hp1
 have hp:d'.toList.Perm l:=by
  have e1:d'.extract 0 l.length=d':=by rw [← hp1,Array.extract_size]
  have e2:l.toArray.extract 0 l.length=l.toArray:=by rw [← List.size_toArray,Array.extract_size]
  rw [e1,e2] at hp2
  simpa using hp2
 have hkp:Keep [b] w (sortWorldK enc k w b 0 m d' os):=yce _ _ _ _ _ _;refine ⟨he,d'.toList,hp,?_,?_,fun x hx=>h.base x hx,h.keep.trans hkp (by simp;exact h.base b rfl)⟩
 ·rw [List.pairwise_iff_getElem]
  intro i j hi hj hij;simp only [Array.length_toList] at hi hj;have:=hs i j (Nat.zero_le _) hij (by rw [← hp1];exact hj);rw [getElem!_pos d' j hj,getElem!_pos d' i hi] at this
  simpa using this
 have hh:HoldsK enc k (sortWorldK enc k w b 0 m d' os) b 0 d':=by
  unfold sortWorldK;exact holdsK_grow enc k _ os b 0 d' (by unfold putRowK;simpa [Go.Sort.ahead] using hb) (holdsK_putRowK enc k _ b 0 l.toArray d' (holdsK_ahead enc k w m b 0 _ hH) (by simpa using hp1))
 have hrow:=yfj hk (c:=c) hh (Nat.lt_of_lt_of_le hb hkp.size) (by omega);obtain⟨cur',hsz',hg'⟩:=yjk (enc:=enc) (k:=k) w b 0 m d' os hg;rw [hp1] at hrow;have hll:d'.toList.length=l.length:=by rw [Array.length_toList,hp1]
 have:=yhN (e:=e) (cur:=cur') hk hll.symm hrow hg' hnc hcm (by rw [hsz'];exact hcs);rw [hll];exact this
end
instance:Inhabited K:=⟨kZ⟩
theorem yfm (a b:K):cmpQ a.1 b.1<0↔a<b:=by
 rcases K.tri a b with ⟨h,g⟩|⟨h,g⟩|⟨h,g⟩
 ·rw [h];constructor
  ·intro h;exact absurd h (by decide)
  intro h;exact absurd (K.trans g h) (K.irrefl _)
 ·rw [h];exact ⟨fun _=>g,fun _=>by decide⟩
 rw [h];subst g;constructor
 ·intro h;exact absurd h (by decide)
 intro h;exact absurd h (K.irrefl _)
theorem cmpK_swo:SWO (ltOf fun x y:K=>cmpQ x.1 y.1) where
 irrefl x:=by unfold ltOf;rw [decide_eq_false_iff_not,yfm];grind
 trans x y z h1 h2:=by unfold ltOf at *;rw [decide_eq_true_iff,yfm] at *;grind
 ntrans x y z h1 h2:=by unfold ltOf at *;rw [decide_eq_false_iff_not,yfm] at *;grind
theorem rcmpK_c (x y:K) (w:World):Calls Tryz.prog 77 #[.agg (kcells x.1).toArray,.agg (kcells y.1).toArray] w fun e w'=>e = .returned (.int .i64 (cmpQ x.1 y.1))∧Keep [] w w' :=
 RCompare_c x.1 y.1 ⟨x.2.2.1.mono (by decide),x.2.2.2.mono (by decide)⟩ ⟨y.2.2.1.mono (by decide),y.2.2.2.mono (by decide)⟩ w
theorem yfQ (l:List K) (w0 w:World) (sv:Value) (h:OK_ w0 w sv l) (h9:l.length≤1000000000) :
  Calls Tryz.prog 76 #[sv,.func (.func 77) #[] #[]] w fun e w'=>e = .returned (.tuple #[])∧∃ l':List K,l'.Perm l∧l'.Pairwise (· ≤ ·)∧OK_ w0 w' sv l':=by
 have h0:=h;rcases h.row.2 with ⟨rfl,hn⟩|⟨g,c,cur,rfl,_⟩
 ·have:=AnyF.slices_SortFunc_none { Tryz.sortReal with } none 0 (.func (.func 77) #[] #[]) w
  change Calls Tryz.prog 76 _ _ _ at this;refine this.mono ?_;rintro e w' ⟨he,rfl⟩;obtain rfl:l=[]:=List.eq_nil_of_length_eq_zero hn;exact ⟨he,[],List.Perm.refl _,List.Pairwise.nil,h0⟩
 have:=sort_own (P:=Tryz.prog) Tryz.sortReal (enc:=fun x:K=>kcells x.1) (k:=9) (by decide) Tryz.isAgg36 Tryz.sizeOf36 (fun x=>yat x.1) (fun x=>yaG x.1) (fun x y=>cmpQ x.1 y.1) cmpK_swo 77 (enters_of Tryz.func77 (by kernel_rfl) rfl) (fun x y w=>rcmpK_c x y w) h0 (by omega);change Calls Tryz.prog 76 _ _ _ at this;refine this.mono ?_;rintro e w' ⟨he,l',hp,hs,ho⟩;refine ⟨he,l',hp,hs.imp (fun {x y} hxy=>?_),ho⟩;unfold ltOf at hxy;rw [decide_eq_false_iff_not,yfm] at hxy;grind
end
section
open Classical
theorem ybW (x y:K) (r:List K):compactS (x :: y :: r)=if x=y then compactS (y :: r) else x :: compactS (y :: r):=by
 rw [compactS];by_cases h:x=y
 ·rw [if_pos h,if_pos h]
 rw [if_neg h,if_neg h]
theorem yge (m:List K) (x y:K):compactS (m++[x,y])=if x=y then compactS (m++[x]) else compactS (m++[x])++[y]:=by
 induction m with
 | nil =>
  show compactS [x,y]=if x=y then compactS [x] else compactS [x]++[y]
  unfold compactS;by_cases h:x=y
  ·subst h;rw [if_pos rfl,if_pos rfl];rfl
  rw [if_neg h,if_neg h];rfl
 | cons a m ih =>
  cases m with
  | nil =>
   have ih:compactS [x,y]=if x=y then compactS [x] else compactS [x]++[y]:=ih
   show compactS (a :: x :: [y])=if x=y then compactS (a :: x :: []) else compactS (a :: x :: [])++[y]
   have e1:compactS (a :: x :: [y])=if a=x then compactS (x :: [y]) else a :: compactS (x :: [y]):=ybW _ _ _
   have e2:compactS (a :: x :: [])=if a=x then compactS (x :: []) else a :: compactS (x :: []):=ybW _ _ _
   rw [e1,e2,ih];by_cases h:a=x<;>by_cases h2:x=y<;>simp [h,h2]
  | cons b m =>
   have e1:compactS (a :: b :: m++[x,y])=if a=b then compactS (b :: m++[x,y]) else a :: compactS (b :: m++[x,y]):=ybW _ _ _
   have e2:compactS (a :: b :: m++[x])=if a=b then compactS (b :: m++[x]) else a :: compactS (b :: m++[x]):=ybW _ _ _
   rw [e1,e2,ih];by_cases h:a=b<;>by_cases h2:x=y<;>simp [h,h2]
theorem ygr (l:List K) (j:Nat) (h:j+1<l.length):compactS (l.take (j+2))=if l[j+1]=l[j] then compactS (l.take (j+1)) else compactS (l.take (j+1))++[l[j+1]]:=by
 have e1:l.take (j+1)=l.take j++[l[j]]:=List.take_succ_eq_append_getElem (by omega)
 have e2:l.take (j+2)=l.take j++[l[j],l[j+1]]:=by
  rw [List.take_succ_eq_append_getElem h,e1,List.append_assoc];rfl
 rw [e2,e1,yge];by_cases h:l[j]=l[j+1]
 ·rw [if_pos h,if_pos h.symm]
 rw [if_neg h,if_neg (fun e=>h e.symm)]
theorem ycZ (l:List K) (h:l.length<2):compactS l=l:=by
 match l,h with
 | [],_=>rfl
 | [x],_=>rfl
theorem kC_fac (x:K):(kC x).toList=kcells x.1∧(kC x).size=9∧(kC x).all (·.oneCell')=true:=⟨rfl,rfl,all_oneCell_toArray (yaG x.1)⟩
theorem eqK_g:prog.eqGuardType prog.depth 36=false:=by kernel_rfl
theorem flatK_mid (a b:List K) (s t:K):setL ((a++s :: b).flatMap fun x=>kcells x.1) (a.length*9) (kcells t.1)=(a++t :: b).flatMap fun x=>kcells x.1:=by
 have ha:(a.flatMap fun x=>kcells x.1).length=a.length*9:=yby (fun x:K=>kcells x.1) (fun x=>yat x.1) a;rw [List.flatMap_append,List.flatMap_append,List.flatMap_cons,List.flatMap_cons];generalize (a.flatMap fun x=>kcells x.1)=F at *;generalize (b.flatMap fun x=>kcells x.1)=G at *;rw [← ha];unfold setL;rw [List.take_left]
 have e:(F++(kcells s.1++G)).drop (F.length+(kcells t.1).length)=G:=by
  rw [← List.drop_drop,List.drop_left,yat,← yat s.1,List.drop_left]
 rw [e,List.append_assoc]
theorem OK_.len {w0 w:World} {ov:Option Addr} {n c:Nat} {l:List K} (h:OK_ w0 w (.slice ov n c) l):n=l.length:=by
 obtain⟨po,pc,e⟩:=h.form;injection e
theorem OK_.setm {w0 w:World} {g n c:Nat} {a b:List K} {s:K} (t:K) (h:OK_ w0 w (.slice (some ⟨g,0,none⟩) n c) (a++s :: b)) :
  OK_ w0 (w.setCells g (a.length*9) (kcells t.1)) (.slice (some ⟨g,0,none⟩) n c) (a++t :: b):=by
 have hr:=h.row;have hlen:(a++s :: b).length=(a++t :: b).length:=by simp
 have hbig:a.length+1≤(a++s :: b).length:=by simp
 have hn:=OK_.len h;subst hn;rw [hlen] at *;obtain⟨h1,k1⟩:=yaY hr (o:=a.length*9) (vs:=kcells t.1) (by rw [yat];omega);rw [flatK_mid a b s t] at h1;exact ⟨h1,h.base,h.keep.trans k1 (by simp;exact h.base g rfl)⟩
theorem OK_.there {w0 w:World} {g n c:Nat} {l:List K} (h:OK_ w0 w (.slice (some ⟨g,0,none⟩) n c) l) (o m:Nat) (hm:o+m≤n*9):w.there g o m:=by
 have hr:=h.row;have hn:=OK_.len h;rw [← hn] at hr;exact ycM hr hm
theorem OK_.cut {w0 w:World} {g n c:Nat} {a b:List K} (h:OK_ w0 w (.slice (some ⟨g,0,none⟩) n c) (a++b)) (vs:List Value) (hv:vs.length=b.length*9) :
  KR (w.setCells g (a.length*9) vs) (.slice (some ⟨g,0,none⟩) a.length c) a∧Keep [] w0 (w.setCells g (a.length*9) vs):=by
 have hr:=h.row;have hn:=OK_.len h;subst hn;have hl:(a++b).length=a.length+b.length:=List.length_append;obtain⟨h1,k1⟩:=yaY hr (o:=a.length*9) (vs:=vs) (by omega)
 have hc:a.length≤c:=by
  rcases hr.2 with ⟨hv,_⟩|⟨g',cap,cur,hv,_,hg,hnc,_⟩
  ·cases hv
  injection hv with _ _ e3;omega
 have hx:=World.ownsRow.cells (g:=g) h1 rfl
 have hg:g<(w.setCells g (a.length*9) vs).heap.size:=by
  rcases h1.2 with ⟨hv,_⟩|⟨g',cap,cur,hv,_,hg,_⟩
  ·cases hv
  injection hv with e1;injection e1 with e1;injection e1 with e1;subst e1;exact yab hg
 refine ⟨.inr ⟨g,0,c,rfl,hc,hg,fun i v hi=>?_⟩,h.keep.trans k1 (by simp;exact h.base g rfl)⟩
 have hil:i<a.length*9:=by
  have:=(List.getElem?_eq_some_iff.1 hi).1;rwa [yby (fun x:K=>kcells x.1) (fun x=>yat x.1)] at this
 have:=hx i v (by
  have hfl:(a.flatMap fun x=>kcells x.1).length=a.length*9:=yby (fun x:K=>kcells x.1) (fun x=>yat x.1) a;rw [List.flatMap_append];generalize (a.flatMap fun x=>kcells x.1)=F at *;unfold setL;rw [List.append_assoc,List.getElem?_append_left (by rw [List.length_take,List.length_append];omega),List.getElem?_take_of_lt hil,List.getElem?_append_left (by omega)]
  exact hi)
 rwa [Addr.add_lit] at this
def rZ:Array Value:=#[.bool false,.string ⟨#[]⟩,.bool false,.string ⟨#[]⟩,.bool false,.string ⟨#[]⟩,.bool false,.string ⟨#[]⟩,.bool false]
theorem rZ_zero (w:World):∃ z,(zeroValue 36).run prog w = .ok z w∧z.cells=rZ:=by
 obtain⟨i,z,hi,hz,hs,hb,hzc⟩:=real_info;refine ⟨z,?_,hzc⟩;unfold zeroValue typeInfo;simp [hi,hz]
theorem yez (n:Nat):(Builtin.zeroCells rZ n).toList.length=n*9:=by
 unfold Builtin.zeroCells;simp [rZ]
theorem zeros_one (n:Nat):∀ v∈(Builtin.zeroCells rZ n).toList,v.oneCell'=true:=by
 intro v hv;unfold Builtin.zeroCells at hv;simp only [Array.toList_map,List.mem_map,Array.toList_range,List.mem_range] at hv;obtain⟨i,hi,rfl⟩:=hv;have h9:rZ.size=9:=rfl;have hm:i % rZ.size<9:=by rw [h9];omega
 generalize i % rZ.size=j at *;rcases j with _|_|_|_|_|_|_|_|_|j;all_goals first|rfl|omega
theorem clear_k {ty:TypeId} (w:World) (b o n c:Nat) (hn:0<n) (ht:w.there b o (n*9)) :
  (Builtin.clear_ #[56] ty #[.slice (some ⟨b,o,none⟩) n c]).run prog w = .ok (.tuple #[]) (w.setCells b o (Builtin.zeroCells rZ n).toList):=by
 have hz:∀ w,∃ z,(zeroValue 36).run prog w = .ok z w∧z.cells=rZ:=rZ_zero;have hst:=run_storeCells_cells (P:=prog) b o (Builtin.zeroCells rZ n).toList 0 w (fun j hj=>(ht j (by rw [yez] at hj;exact hj)).1) (fun j hj=>(ht j (by rw [yez] at hj;exact hj)).2) (zeros_one n);simp only [Nat.add_zero] at hst;obtain⟨z,hz1,hz2⟩:=hz w;obtain⟨m,rfl⟩:∃ m,n=m+1:=⟨n-1,by omega⟩;simp [Builtin.clear_,run_underlying underlying56,hz1,hz2,hst]
theorem yjI {P:Program} {o:Oper} {ev:Operand→Value} {w w':World} (x:Operand) (t:TypeId) (vx:Value) (ho:o.op = .call { callee:=.builtin .clear,args:=#[x],argTypes:=#[t] }) (hx:ev x=vx)
  (h:(Builtin.clear_ #[t] o.type #[vx]).run P w = .ok (.tuple #[]) w'):(execOp ev o).run P w = .ok (.value (.tuple #[])) w':=by
 unfold execOp;simp only [ho,resolve,invoke,builtin,Sem.run_bind,Sem.run_pure,Result.andThen_ok,List.map_toArray,List.map_cons,List.map_nil,hx,h]
end
section
open Classical
theorem okAt {w0 w:World} {g n c:Nat} {l:List K} (h:OK_ w0 w (.slice (some ⟨g,0,none⟩) n c) l) (i:Nat) (hi:i<l.length):KAt w g (i*9) l[i].1∧g<w.heap.size:=by
 obtain⟨g',o',e,hg',hat⟩:=RowE.elem (fun x:K=>yat x.1) h.read i hi;injection e with e;injection e with e1 e2;subst e1 e2;refine ⟨fun j v hv=>?_,hg'⟩;have:=hat j v hv;rwa [Nat.zero_add] at this
theorem yft (l:List K) (j k e:Nat) (hj:k=j+1) (he:e=k+1) (hk:k<l.length) (hjl:j<l.length):compactS (l.take e)=if l[k]=l[j] then compactS (l.take k) else compactS (l.take k)++[l[k]]:=by
 subst hj he;exact ygr l j hk
theorem yiM (C l:List K) (m e:Nat) (hC:C.length=m) (hm:m≤e) (he:e<l.length) (h:e<(C++l.drop m).length):(C++l.drop m)[e]=l[e]:=by
 subst hC;rw [List.getElem_append_right hm,List.getElem_drop];congr 1
 omega
theorem yhl (l:List K) (w0 w:World) (sv:Value) (h:OK_ w0 w sv l) (h9:l.length≤1000000000) :
  Calls prog 78 #[sv] w fun e w'=>∃ v,e = .returned v∧KR w' v (compactS l)∧Keep [] w0 w':=by
 have HO:=jX h;by_cases hsh:l.length<2
 ·obtain⟨oo,oc,rfl⟩:=h.form
  have HF:=jX (ycZ l hsh);clear h;go_enter func78,ntmps78
  go_wp2_with fail;go_ret
  exact ⟨_,rfl,by rw [HF.out];exact HO.out.read,HO.out.keep⟩
 rcases h.row.2 with ⟨hv,hn⟩|⟨g,c,cur,rfl,_,hg,hnc,hcm,hr1,hr2⟩
 ·exfalso;omega
 clear h hg hr1 hr2 hcm;go_enter func78,ntmps78
 go_wp2_with fail;go_loopw [3] (fun cv wr=>∃ k:Nat,1≤k∧k≤l.length∧cv = .int .i64 (k:Int)∧compactS (l.take k)=l.take k∧Keep [] w wr) (fun cv _=>l.length-(intOf cv).toNat)
 case atStart=>exact ⟨1,Nat.le_refl _,by omega,rfl,ycZ _ (by rw [List.length_take];omega),Keep.refl _ _⟩
 case round =>
  obtain⟨k,hk1,hk,rfl,hcp,hkp⟩:=hrel;obtain⟨j,hj⟩:∃ j,k=j+1:=⟨k-1,by omega⟩;have Hj:=jX hj;have HC:=jX hcp;have HK:=jX hkp;have hsub:(k:Int)-1=(j:Int):=by omega
  have hjl:j<l.length:=by omega
  clear hcp hkp;by_cases hlt:k<l.length
  ·have hjc:((j:Nat):Int)<(l.length:Int):=by omega
   have h1:=okAt (HO.out.later HK.out) k hlt;have h2:=okAt (HO.out.later HK.out) j hjl;have Hst:=jX (yft l j k (k+1) hj rfl hlt hjl);have Hkx:Hid (l.take (k+1)=l.take k++[l[k]]):=List.take_succ_eq_append_getElem hlt;clear hj;obtain⟨p,hp⟩:∃ p,k*9=p:=⟨_,rfl⟩;obtain⟨q,hq⟩:∃ q,j*9=q:=⟨_,rfl⟩;rw [hp] at h1;rw [hq] at h2;have HLx:=jX (KAt.ld h1.1 h1.2);have HLy:=jX (KAt.ld h2.1 h2.2);generalize l[k]=x at *;generalize l[j]=y at *;have HN:=jX (eqR_run x y);clear h1 h2;unfold kv at *;generalize kC x=X at *;generalize kC y=Y at *;by_cases hxy:x=y
   ·rw [decide_eq_true hxy] at HN
    have Hc:=jX (Hst.out.trans (if_pos hxy));clear Hst hxy;go_wp2_with fail;refine yac (by kernel_rfl) (by kernel_rfl) ?_
    repeat (first
     | go_big_quiet_skip
     | (go_big_quiet_want;first
      | (refine yai _ _ _ (.agg X) rfl rfl (by rintro _ ⟨m,rfl⟩;exact HLx.out m) ?_;go_simp;go_big_quiet_on)|(refine yai _ _ _ (.agg Y) rfl rfl (by rintro _ ⟨m,rfl⟩;exact HLy.out m) ?_;go_simp;go_big_quiet_on)|(refine yck _ _ _ _ _ _ _ (_) rfl rfl rfl eqK_g (by intro w;exact HN.out w) ?_;go_simp;go_big_quiet_on)
      | (go_big_quiet_op;first|go_big_quiet_on|go_big_quiet_call (first
       | fail))))
    refine wpQuiet_nil ?_;rintro w1 ⟨⟨_,hk_w1⟩,rfl⟩;clear HLx HLy HN;have Hk1:=jX hk_w1;clear hk_w1;have HO1:=jX ((HO.out.later HK.out).later Hk1.out);have Hc1:=jX (Hc.out.trans HC.out);have Htl:=jX (show (l.take k).length=k by rw [List.length_take];omega)
    clear Hc HC Hkx HK Hk1 hjc hsub hjl Hj hq;have Hp:=jX hp;obtain⟨nn,hnn⟩:∃ nn,l.length-k=nn:=⟨_,rfl⟩;have Hnk:=jX (show k+nn=l.length by omega)
    have hnp:1<c:=by omega
    go_wp2_with fail;go_loopw [3,5] (fun mv iv_ wv=>∃ (m i:Nat),mv = .int .i64 (m:Int)∧iv_ = .int .i64 (i:Int)∧1≤i∧k+i≤l.length∧m+1≤k+i∧(compactS (l.take (k+i))).length=m∧OK_ w0 wv (.slice (some ⟨g,0,none⟩) l.length c) (compactS (l.take (k+i))++l.drop m)) (fun _ iv_ _=>l.length-(intOf iv_).toNat)
    case atStart=>exact ⟨k,1,rfl,rfl,Nat.le_refl _,by omega,by omega,by rw [Hc1.out,Htl.out],by rw [Hc1.out,List.take_append_drop];exact HO1.out⟩
    case round =>
     obtain⟨m,i,rfl,rfl,hi1,hil,hmi,hcl,hov⟩:=hrel;rename World=>wv;have Hcl:=jX hcl;have HOv:=jX hov;have hlen:(compactS (l.take (k+i))++l.drop m).length=l.length:=(OK_.len hov).symm;have hml:m<l.length:=by have:=Hnk.out;omega
     clear hov;by_cases hlt2:i<nn
     ·obtain⟨i',hi'⟩:∃ i',i=i'+1:=⟨i-1,by omega⟩
      have hsub2:(i:Int)-1=(i':Int):=by omega
      have hltc:(i':Int)<(nn:Int):=by omega
      have hki:k+i<l.length:=by have:=Hnk.out;omega
      have hki':k+i'<l.length:=by omega
      have h1:=okAt HOv.out (k+i) (by omega);have h2:=okAt HOv.out (k+i') (by omega);rw [yiM _ l m (k+i) hcl (by omega) hki] at h1;rw [yiM _ l m (k+i') hcl (by omega) hki'] at h2;have Hst:=jX (yft l (k+i') (k+i) (k+(i+1)) (by omega) (by omega) hki hki');have Hdm:Hid (l.drop m=l[m] :: l.drop (m+1)):=List.drop_eq_getElem_cons hml;have Hi':=jX hi';clear hi' hlen hcl;generalize l[m]=y0 at *;generalize l[k+i]=x at *;generalize l[k+i']=y at *;obtain⟨r,hr⟩:∃ r,p+i*9=r:=⟨_,rfl⟩;obtain⟨s,hs⟩:∃ s,p+i'*9=s:=⟨_,rfl⟩;obtain⟨mm,hmm⟩:∃ mm,m*9=mm:=⟨_,rfl⟩;have Hmm:=jX hmm;rw [show (k+i)*9=r by rw [Nat.add_mul,Hp.out];exact hr] at h1
      rw [show (k+i')*9=s by rw [Nat.add_mul,Hp.out];exact hs] at h2
      have HLx:=jX (KAt.ld h1.1 h1.2);have HLy:=jX (KAt.ld h2.1 h2.2);have HN:=jX (neqR_run x y);have HLd:Hid (∀ u,Keep [] wv u→(loadVar 36 ⟨g,r,none⟩).run prog u = .ok (.agg (kC x)) u):=fun u hu=>yap u g r x.1 (h1.1.keep (hu.block g h1.2 (by simp)));have HX:=jX (kC_fac x);clear h1 h2;unfold kv at *;generalize kC x=X at *;generalize kC y=Y at *;by_cases hxy:x=y
      ·rw [decide_eq_true hxy] at HN
       have Hc:=jX (Hst.out.trans (if_pos hxy));clear Hst hxy HLd HX;go_wp2_with fail;refine yac (by kernel_rfl) (by kernel_rfl) ?_
       repeat (first
        | go_big_quiet_skip
        | (go_big_quiet_want;first
         | (refine yai _ _ _ (.agg X) rfl rfl (by rintro _ ⟨m,rfl⟩;exact HLx.out m) ?_;go_simp;go_big_quiet_on)|(refine yai _ _ _ (.agg Y) rfl rfl (by rintro _ ⟨m,rfl⟩;exact HLy.out m) ?_;go_simp;go_big_quiet_on)|(refine yck _ _ _ _ _ _ _ (_) rfl rfl rfl eqK_g (by intro w;exact HN.out w) ?_;go_simp;go_big_quiet_on)
         | (go_big_quiet_op;first|go_big_quiet_on|go_big_quiet_call (first
          | fail))))
       refine wpQuiet_nil ?_;rintro w1 ⟨⟨_,hk_w1⟩,rfl⟩;clear HLx HLy HN;have Hk1:=jX hk_w1;clear hk_w1;go_wp2_with fail;go_roundw
       case rel=>exact ⟨m,i+1,rfl,congrArg (Value.int .i64) (by omega),by omega,by omega,by omega,by rw [Hc.out];exact Hcl.out,by rw [Hc.out];exact HOv.out.later Hk1.out⟩
       case measure=>simp [intOf];omega
      rw [decide_eq_false hxy] at HN;have Hc:=jX (Hst.out.trans (if_neg hxy));clear Hst hxy;go_wp2_with fail;refine yac (by kernel_rfl) (by kernel_rfl) ?_
      repeat (first
       | go_big_quiet_skip
       | (go_big_quiet_want;first
        | (refine yai _ _ _ (.agg X) rfl rfl (by rintro _ ⟨m,rfl⟩;exact HLx.out m) ?_;go_simp;go_big_quiet_on)|(refine yai _ _ _ (.agg Y) rfl rfl (by rintro _ ⟨m,rfl⟩;exact HLy.out m) ?_;go_simp;go_big_quiet_on)|(refine yck _ _ _ _ _ _ _ (_) rfl rfl rfl eqK_g (by intro w;exact HN.out w) ?_;go_simp;go_big_quiet_on)
        | (go_big_quiet_op;first|go_big_quiet_on|go_big_quiet_call (first
         | fail))))
      refine wpQuiet_nil ?_;rintro w1 ⟨⟨_,hk_w1⟩,rfl⟩;clear HLx HLy HN;have Hk1:=jX hk_w1;clear hk_w1;have HL2:=jX (HLd.out _ Hk1.out);have HO2:=jX (HOv.out.later Hk1.out);rw [Hdm.out] at HO2;have HTh:=jX (OK_.there HO2.out mm 9 (by rw [← Hmm.out];omega));have HSet:=jX (OK_.setm x HO2.out);rw [Hcl.out,Hmm.out,← HX.out.1] at HSet;have Hmc:(m:Int)<(l.length:Int):=by omega
      clear HLd HO2 Hk1 HOv;go_upto_region 12 with (fail)
      refine wp_region_lit ?_;refine' yad (v:=_) (by rfl) (?ha) (fun K hK=>?ka)
      case ha=>(go_simp;try rfl)
      go_simp;refine hK _ _ ?_;clear hK K;refine' yad (v:=_) (by rfl) (?hb) (fun K hK=>?kb)
      case hb=>(go_simp;try rfl)
      go_simp;refine hK _ _ ?_;clear hK K;refine' yad (v:=_) (by rfl) (?hc) (fun K hK=>?kc)
      case hc=>(go_simp;try rfl)
      go_simp;refine hK _ _ ?_;clear hK K;refine' yad (v:=_) (by rfl) (?hd) (fun K hK=>?kd)
      case hd=>(go_simp;try rfl)
      go_simp;refine hK _ _ ?_;clear hK K;refine' yad (v:=_) (by rfl) (?he) (fun K hK=>?ke)
      case he=>(go_simp;try rfl)
      go_simp;refine hK _ _ ?_;clear hK K;refine yad (v:=.agg X) (by rfl) (yak _ _ ⟨g,r,none⟩ _ rfl rfl HL2.out) (fun K hK=>?_);go_simp;refine hK _ _ ?_;clear hK K;refine' yad (v:=_) (by rfl) (?hf) (fun K hK=>?kf)
      case hf=>(go_simp;try rfl)
      go_simp;refine hK _ _ ?_;clear hK K;refine ybw (by rfl) _ _ _ rfl g mm X rfl rfl (by rw [HX.out.2.1];exact HTh.out) (by rw [HX.out.2.1];exact k_size) HX.out.2.2 (fun K hK=>?_);go_simp;refine hK _ _ ?_;clear hK K;generalize World.setCells _ g mm X.toList=u9 at *;go_wp2_with fail;go_roundw
      case rel=>exact ⟨m+1,i+1,congrArg (Value.int .i64) (by omega),congrArg (Value.int .i64) (by omega),by omega,by omega,by omega,by rw [Hc.out,List.length_append,Hcl.out];rfl,by rw [Hc.out,List.append_assoc];exact HSet.out⟩
      case measure=>simp [intOf];omega
     obtain rfl:i=nn:=by have:=Hnk.out;omega
     have hfull:l.take (k+i)=l:=by rw [Hnk.out,List.take_length]
     obtain⟨mm,hmm⟩:∃ mm,m*9=mm:=⟨_,rfl⟩;obtain⟨qq,hqq⟩:∃ qq,l.length-m=qq:=⟨_,rfl⟩;have Hq0:=jX (show 0<qq by omega)
     have HTh:=jX (OK_.there HOv.out mm (qq*9) (by omega));have HCut:=jX (OK_.cut HOv.out (Builtin.zeroCells rZ qq).toList (by rw [yez,List.length_drop,hqq]));rw [hcl,hmm,hfull] at HCut;clear hfull hlen hcl Hcl HOv;have hmc:m≤c:=by omega
     have hml2:m≤l.length:=by omega
     have hmc2:¬ c=m:=by omega
     go_upto_region 14 with (fail)
     refine wp_region_lit ?_;refine' yad (v:=_) (by rfl) (?hg) (fun K hK=>?kg)
     case hg=>(go_simp;try rfl)
     go_simp;refine hK _ _ ?_;clear hK K;refine' yad (v:=_) (by rfl) (?hh) (fun K hK=>?kh)
     case hh=>(go_simp;try rfl)
     go_simp;refine hK _ _ ?_;clear hK K;refine' yad (v:=_) (by rfl) (?hi) (fun K hK=>?ki)
     case hi=>(go_simp;try rfl)
     go_simp;refine hK _ _ ?_;clear hK K;refine yar (v:=.tuple #[]) (by rfl) (yjI (.tmp 56) 56 _ rfl rfl (clear_k wv g mm qq _ Hq0.out HTh.out)) (fun K hK=>?_);go_simp;refine hK _ _ ?_;clear hK K HTh;generalize World.setCells wv g mm (Builtin.zeroCells rZ qq).toList=u9 at *;go_wp2_with fail;go_ret
     exact ⟨_,rfl,HCut.out.1,HCut.out.2⟩
   rw [decide_eq_false hxy] at HN;have Hc:Hid (compactS (l.take (k+1))=l.take (k+1)):=(Hst.out.trans (if_neg hxy)).trans (by rw [HC.out,Hkx.out]);clear Hst hxy;go_wp2_with fail;refine yac (by kernel_rfl) (by kernel_rfl) ?_
   repeat (first
    | go_big_quiet_skip
    | (go_big_quiet_want;first
     | (refine yai _ _ _ (.agg X) rfl rfl (by rintro _ ⟨m,rfl⟩;exact HLx.out m) ?_;go_simp;go_big_quiet_on)|(refine yai _ _ _ (.agg Y) rfl rfl (by rintro _ ⟨m,rfl⟩;exact HLy.out m) ?_;go_simp;go_big_quiet_on)|(refine yck _ _ _ _ _ _ _ (_) rfl rfl rfl eqK_g (by intro w;exact HN.out w) ?_;go_simp;go_big_quiet_on)
     | (go_big_quiet_op;first|go_big_quiet_on|go_big_quiet_call (first
      | fail))))
   refine wpQuiet_nil ?_;rintro w1 ⟨⟨_,hk_w1⟩,rfl⟩;clear HLx HLy HN;have Hk1:=jX hk_w1;clear hk_w1;go_wp2_with fail;go_roundw
   case rel=>exact ⟨k+1,by omega,by omega,congrArg (Value.int .i64) (by omega),Hc.out,HK.out.tz Hk1.out⟩
   case measure=>simp [intOf];omega
  obtain rfl:k=l.length:=by omega
  have HF:=HC.out;rw [List.take_length] at HF;have HF2:=jX HF;clear HF;go_wp2_with fail;go_ret
  exact ⟨_,rfl,by rw [HF2.out];exact (HO.out.later HK.out).read,HO.out.keep.tz HK.out⟩
end
end Go.Proofs.YtejegogbhpmgfaaGreatDoor
