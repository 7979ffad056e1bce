/- Parts of a proof: Ez Ri Rq. -/
import Derived.Deep.LoopGhost
import Derived.Test.YtpgffjjpiafhpaaGreatDoorU07
set_option linter.unusedVariables false
set_option linter.unusedSimpArgs false
set_option maxRecDepth 100000
set_option maxHeartbeats 8000000
namespace Go.Proofs.YtpgffjjpiafhpaaGreatDoor
open Go.RowKit Tryz
theorem al1 (w:World) (A:Obj):∃ (W:World) (ga:Nat),W=w.alloc A∧w.heap.size=ga∧W.heap[ga]? = some A∧w.heap.size≤ga∧ga<W.heap.size∧Keep [] w W:=by
 exact ⟨_,_,rfl,rfl,World.alloc_heap_new w A,Nat.le_refl _,by simp,Keep.alloc _ _ _⟩
theorem al1h (w:World) (A:Obj):∃ (W:World) (ga:Nat),W=w.alloc A∧w.heap.size=ga∧Hid (W.heap[ga]? = some A)∧w.heap.size≤ga∧ga<W.heap.size∧Hid (Keep [] w W):=al1 w A
theorem al2 (w:World) (A B:Obj):∃ (W:World) (ga gb:Nat),W=(w.alloc A).alloc B∧w.heap.size=ga∧w.heap.size+1=gb∧W.heap[ga]? = some A∧W.heap[gb]? = some B∧w.heap.size≤ga∧ga<gb∧gb<W.heap.size∧Keep [] w W:=by
 obtain⟨W1,ga,e1,qga,bga,hga,z1,k1⟩:=al1 w A;have es:W1.heap.size=w.heap.size+1:=by rw [e1];simp
 have a2:(W1.alloc B).heap[W1.heap.size]? = some B:=World.alloc_heap_new W1 B;have k2:=Keep.alloc [] W1 B;refine ⟨W1.alloc B,ga,W1.heap.size,by rw [e1],qga,es.symm,k2.heap bga (by simp),a2,hga,z1,by simp,k1.trans k2 (by simp)⟩
theorem al2h (w:World) (A B:Obj):∃ (W:World) (ga gb:Nat),W=(w.alloc A).alloc B∧w.heap.size=ga∧w.heap.size+1=gb∧Hid (W.heap[ga]? = some A)∧Hid (W.heap[gb]? = some B)∧w.heap.size≤ga∧ga<gb∧gb<W.heap.size∧Hid (Keep [] w W):=al2 w A B
theorem al3 (w:World) (A B C:Obj):∃ (W:World) (ga gb gc:Nat),W=((w.alloc A).alloc B).alloc C∧w.heap.size=ga∧w.heap.size+1=gb∧w.heap.size+1+1=gc∧W.heap[ga]? = some A∧W.heap[gb]? = some B∧W.heap[gc]? = some C∧w.heap.size≤ga∧ga<gb∧gb<gc∧gc<W.heap.size∧Keep [] w W:=by
 obtain⟨W1,ga,gb,e1,qga,qgb,bga,bgb,hga,hgb,z1,k1⟩:=al2 w A B;have es:W1.heap.size=w.heap.size+1+1:=by rw [e1];simp
 have a2:(W1.alloc C).heap[W1.heap.size]? = some C:=World.alloc_heap_new W1 C;have k2:=Keep.alloc [] W1 C;refine ⟨W1.alloc C,ga,gb,W1.heap.size,by rw [e1],qga,qgb,es.symm,k2.heap bga (by simp),k2.heap bgb (by simp),a2,hga,hgb,z1,by simp,k1.trans k2 (by simp)⟩
theorem al3h (w:World) (A B C:Obj):∃ (W:World) (ga gb gc:Nat),W=((w.alloc A).alloc B).alloc C∧w.heap.size=ga∧w.heap.size+1=gb∧w.heap.size+1+1=gc∧Hid (W.heap[ga]? = some A)∧Hid (W.heap[gb]? = some B)∧Hid (W.heap[gc]? = some C)∧w.heap.size≤ga∧ga<gb∧gb<gc∧gc<W.heap.size∧Hid (Keep [] w W):=al3 w A B C
theorem al4 (w:World) (A B C D:Obj):∃ (W:World) (ga gb gc gd:Nat),W=(((w.alloc A).alloc B).alloc C).alloc D∧w.heap.size=ga∧w.heap.size+1=gb∧w.heap.size+1+1=gc∧w.heap.size+1+1+1=gd∧W.heap[ga]? = some A∧W.heap[gb]? = some B∧W.heap[gc]? = some C∧W.heap[gd]? = some D∧w.heap.size≤ga∧ga<gb∧gb<gc∧gc<gd∧gd<W.heap.size∧Keep [] w W:=by
 obtain⟨W1,ga,gb,gc,e1,qga,qgb,qgc,bga,bgb,bgc,hga,hgb,hgc,z1,k1⟩:=al3 w A B C;have es:W1.heap.size=w.heap.size+1+1+1:=by rw [e1];simp
 have a2:(W1.alloc D).heap[W1.heap.size]? = some D:=World.alloc_heap_new W1 D;have k2:=Keep.alloc [] W1 D;refine ⟨W1.alloc D,ga,gb,gc,W1.heap.size,by rw [e1],qga,qgb,qgc,es.symm,k2.heap bga (by simp),k2.heap bgb (by simp),k2.heap bgc (by simp),a2,hga,hgb,hgc,z1,by simp,k1.trans k2 (by simp)⟩
theorem al4h (w:World) (A B C D:Obj):∃ (W:World) (ga gb gc gd:Nat),W=(((w.alloc A).alloc B).alloc C).alloc D∧w.heap.size=ga∧w.heap.size+1=gb∧w.heap.size+1+1=gc∧w.heap.size+1+1+1=gd∧Hid (W.heap[ga]? = some A)∧Hid (W.heap[gb]? = some B)∧Hid (W.heap[gc]? = some C)∧Hid (W.heap[gd]? = some D)∧w.heap.size≤ga∧ga<gb∧gb<gc∧gc<gd∧gd<W.heap.size∧Hid (Keep [] w W):=al4 w A B C D
theorem al5 (w:World) (A B C D E:Obj):∃ (W:World) (ga gb gc gd ge:Nat),W=((((w.alloc A).alloc B).alloc C).alloc D).alloc E∧w.heap.size=ga∧w.heap.size+1=gb∧w.heap.size+1+1=gc∧w.heap.size+1+1+1=gd∧w.heap.size+1+1+1+1=ge∧W.heap[ga]? = some A∧W.heap[gb]? = some B∧W.heap[gc]? = some C∧W.heap[gd]? = some D∧W.heap[ge]? = some E∧w.heap.size≤ga∧ga<gb∧gb<gc∧gc<gd∧gd<ge∧ge<W.heap.size∧Keep [] w W:=by
 obtain⟨W1,ga,gb,gc,gd,e1,qga,qgb,qgc,qgd,bga,bgb,bgc,bgd,hga,hgb,hgc,hgd,z1,k1⟩:=al4 w A B C D;have es:W1.heap.size=w.heap.size+1+1+1+1:=by rw [e1];simp
 have a2:(W1.alloc E).heap[W1.heap.size]? = some E:=World.alloc_heap_new W1 E;have k2:=Keep.alloc [] W1 E;refine ⟨W1.alloc E,ga,gb,gc,gd,W1.heap.size,by rw [e1],qga,qgb,qgc,qgd,es.symm,k2.heap bga (by simp),k2.heap bgb (by simp),k2.heap bgc (by simp),k2.heap bgd (by simp),a2,hga,hgb,hgc,hgd,z1,by simp,k1.trans k2 (by simp)⟩
theorem al5h (w:World) (A B C D E:Obj):∃ (W:World) (ga gb gc gd ge:Nat),W=((((w.alloc A).alloc B).alloc C).alloc D).alloc E∧w.heap.size=ga∧w.heap.size+1=gb∧w.heap.size+1+1=gc∧w.heap.size+1+1+1=gd∧w.heap.size+1+1+1+1=ge∧Hid (W.heap[ga]? = some A)∧Hid (W.heap[gb]? = some B)∧Hid (W.heap[gc]? = some C)∧Hid (W.heap[gd]? = some D)∧Hid (W.heap[ge]? = some E)∧w.heap.size≤ga∧ga<gb∧gb<gc∧gc<gd∧gd<ge∧ge<W.heap.size∧Hid (Keep [] w W):=al5 w A B C D E
theorem yag {w:World} {b:Nat} {cs:Array Value} {t:TypeId} {f:Nat × Nat} (h:w.heap[b]? = some (.cells cs t f)) (m:KW w) (i:Nat):(Wk w m).cell? ⟨b,i,none⟩=cs[i]?:=by
 show m.x.cell? _=_
 rw [yab (m.k.heap h (by simp))]
theorem st2 {w:World} {g:Nat} {a b x y:Value} {t:TypeId} (h:w.heap[g]? = some (.cells #[a,b] t (0,0))) :
  ∃ W,W=(w.setCell ⟨g,0,none⟩ x).setCell ⟨g,1,none⟩ y∧W.heap[g]? = some (.cells #[x,y] t (0,0))∧Keep [g] w W :=
 ⟨_,rfl,by rw [set_same (set_same h 0 x) 1 y];rfl,(Keep.setCell [g] w g 0 x (by simp)).trans (Keep.setCell [g] _ g 1 y (by simp)) (by simp)⟩
theorem st4 {w:World} {g:Nat} {a b c d x y z u:Value} {t:TypeId} (h:w.heap[g]? = some (.cells #[a,b,c,d] t (0,0))) :
  ∃ W,W=(((w.setCell ⟨g,0,none⟩ x).setCell ⟨g,1,none⟩ y).setCell ⟨g,2,none⟩ z).setCell ⟨g,3,none⟩ u∧W.heap[g]? = some (.cells #[x,y,z,u] t (0,0))∧Keep [g] w W :=
 ⟨_,rfl,by rw [set_same (set_same (set_same (set_same h 0 x) 1 y) 2 z) 3 u];rfl,
  (((Keep.setCell [g] w g 0 x (by simp)).trans (Keep.setCell [g] _ g 1 y (by simp)) (by simp)).trans (Keep.setCell [g] _ g 2 z (by simp)) (by simp)).trans (Keep.setCell [g] _ g 3 u (by simp)) (by simp)⟩
theorem yfB (d:Nat) (a b:Bool) (s t:ByteArray) (w:World):(Op.equalIn (d+2) 26 (.agg #[.bool a,.string s]) (.agg #[.bool b,.string t])).run prog w = .ok ((a == b)&&decide (s=t)) w:=by
 have u3:=underlying4;have a3:=isAgg4;have z3:=sizeOf4;have u9:=underlying9;have a9:=isAgg9;have z9:=sizeOf9;have hS:prog.underlying 26=some (.struct (prog.fieldsOf 26)):=by kernel_rfl
 have hp:prog.stoodInHeld 26=false:=by kernel_rfl
 rw [run_equalIn_agg w (d+1) 26 _ _ hS hp];simp only [Program.fieldsOf,underlying26];go_simp;by_cases h:s=t
 ·have h2:=str_yes h
  cases a<;>cases b<;>simp [h,h2]
 have h2:=yfl h;have h3:¬ s.toList=t.toList:=fun e=>h (yfn e);cases a<;>cases b<;>simp [h,h2,h3]
theorem eqZ_g:prog.eqGuardType prog.depth 26=false:=by kernel_rfl
theorem ygD (d:Nat) (a1 b1 a2 b2:Bool) (s1 t1 s2 t2:ByteArray) (w:World):(Op.equalIn (d+3) 28 (.agg #[.bool a1,.string s1,.bool a2,.string s2]) (.agg #[.bool b1,.string t1,.bool b2,.string t2])).run prog w = .ok (((a1 == b1)&&decide (s1=t1))&&((a2 == b2)&&decide (s2=t2))) w:=by
 have u3:=underlying26;have a3:=isAgg26;have z3:=sizeOf26;have e1:=yfB d a1 b1 s1 t1;have e2:=yfB d a2 b2 s2 t2;have hS:prog.underlying 28=some (.struct (prog.fieldsOf 28)):=by kernel_rfl
 have hp:prog.stoodInHeld 28=false:=by kernel_rfl
 rw [run_equalIn_agg w (d+2) 28 _ _ hS hp];simp only [Program.fieldsOf,underlying28];go_simp;by_cases h1:s1=t1<;>by_cases h2:s2=t2<;>cases a1<;>cases b1<;>cases a2<;>cases b2<;>simp [h1,h2]
theorem eqQ_g:prog.eqGuardType prog.depth 28=false:=by kernel_rfl
theorem eqR_in (d:Nat) (a1 b1 a2 b2 a3' b3' a4 b4 a5 b5:Bool) (s1 t1 s2 t2 s3 t3 s4 t4:ByteArray) (w:World):(Op.equalIn (d+4) 30 (.agg #[.bool a1,.string s1,.bool a2,.string s2,.bool a3',.string s3,.bool a4,.string s4,.bool a5]) (.agg #[.bool b1,.string t1,.bool b2,.string t2,.bool b3',.string t3,.bool b4,.string t4,.bool b5])).run prog w =
  .ok ((((a1 == b1)&&decide (s1=t1))&&((a2 == b2)&&decide (s2=t2)))&&((((a3' == b3')&&decide (s3=t3))&&((a4 == b4)&&decide (s4=t4)))&&(a5 == b5))) w:=by
 have u3:=underlying28;have a3:=isAgg28;have z3:=sizeOf28;have u4:=underlying4;have aa4:=isAgg4;have z4:=sizeOf4;have e1:=ygD d a1 b1 a2 b2 s1 t1 s2 t2;have e2:=ygD d a3' b3' a4 b4 s3 t3 s4 t4;have hS:prog.underlying 30=some (.struct (prog.fieldsOf 30)):=by kernel_rfl
 have hp:prog.stoodInHeld 30=false:=by kernel_rfl
 rw [run_equalIn_agg w (d+3) 30 _ _ hS hp];simp only [Program.fieldsOf,underlying30];generalize (((a1 == b1)&&decide (s1=t1))&&((a2 == b2)&&decide (s2=t2)))=x1 at *;generalize (((a3' == b3')&&decide (s3=t3))&&((a4 == b4)&&decide (s4=t4)))=x2 at *;go_simp;cases x1<;>cases x2<;>cases a5<;>cases b5<;>simp
def dnS (n:Nat):ByteArray:=if n=1 then ⟨#[]⟩ else magS n
def rc (q:Rat):List Value:=[.bool (sgB q.num),.string (mgS q.num),.bool false,.string (dnS q.den)]
def rv (q:Rat):Value:=.agg #[.bool (sgB q.num),.string (mgS q.num),.bool false,.string (dnS q.den)]
theorem mg_sg_inj {a b:Int} (h1:sgB a=sgB b) (h2:mgS a=mgS b):a=b:=by
 unfold mgS at h2;rw [ydr] at h2;unfold sgB at h1;rw [decide_eq_decide] at h1;omega
theorem yhD (a b:Int):((sgB a == sgB b)&&decide (mgS a=mgS b))=decide (a=b):=by
 by_cases h:a=b
 ·subst h;simp
 rw [decide_eq_false h];by_cases h1:sgB a=sgB b
 ·have h2:mgS a≠mgS b:=fun e=>h (mg_sg_inj h1 e)
  simp [h2]
 simp [h1]
theorem dnS_inj {m n:Nat} (hm:m≠0) (hn:n≠0) (h:dnS m=dnS n):m=n:=by
 unfold dnS at h;by_cases h1:m=1<;>by_cases h2:n=1
 ·omega
 ·rw [if_pos h1,if_neg h2] at h
  exact absurd (ybx.1 h.symm) hn
 ·rw [if_neg h1,if_pos h2] at h
  exact absurd (ybx.1 h) hm
 rw [if_neg h1,if_neg h2,ydr] at h;exact h
theorem eqD_dec (a b:Rat):((false == false)&&decide (dnS a.den=dnS b.den))=decide (a.den=b.den):=by
 by_cases h:a.den=b.den
 ·rw [h];simp
 have:dnS a.den≠dnS b.den:=fun e=>h (dnS_inj a.den_nz b.den_nz e);simp [h,this]
theorem yed (a b:Rat):(((sgB a.num == sgB b.num)&&decide (mgS a.num=mgS b.num))&&((false == false)&&decide (dnS a.den=dnS b.den)))=decide (a=b):=by
 rw [yhD,eqD_dec];by_cases h:a=b
 ·subst h;simp
 rw [decide_eq_false h];by_cases h1:a.num=b.num
 ·have h2:a.den≠b.den:=fun e=>h (Rat.ext h1 e)
  simp [h2]
 simp [h1]
theorem yhW (a b:Int) (w:World):(binOp .eql 26 (.agg #[.bool (sgB a),.string (mgS a)]) (.agg #[.bool (sgB b),.string (mgS b)])).run prog w = .ok (.bool (decide (a=b))) w:=by
 rw [run_eql_struct,show (10000:Nat)=9998+2 from rfl,yfB,yhD];rfl
theorem eqD_run (a b:Rat) (w:World):(binOp .eql 26 (.agg #[.bool false,.string (dnS a.den)]) (.agg #[.bool false,.string (dnS b.den)])).run prog w = .ok (.bool (decide (a.den=b.den))) w:=by
 rw [run_eql_struct,show (10000:Nat)=9998+2 from rfl,yfB,eqD_dec];rfl
theorem eqQ_run (a b:Rat) (w:World):(binOp .eql 28 (rv a) (rv b)).run prog w = .ok (.bool (decide (a=b))) w:=by
 unfold rv;rw [run_eql_struct,show (10000:Nat)=9997+3 from rfl,ygD,yed];rfl
theorem ydD {n:Nat} (h:n=1):dnS n=⟨#[]⟩:=by unfold dnS;rw [if_pos h]
theorem yfE {n:Nat} (h:n≠1):dnS n=magS n:=by unfold dnS;rw [if_neg h]
theorem yfG (n:Nat):mgS (n:Int)=magS n:=by unfold mgS;rw [Int.natAbs_natCast]
theorem yft (n:Nat):sgB (n:Int)=false:=by unfold sgB;simp
theorem ydt {w w':World} {e:TypeId} {size:Nat} {v:Value} {n:Nat} {xs:List Value} {F:List Nat} (h:w.ownsRow 0 e size v n xs) (hk:Keep F w w') (hF:∀ g,v.ownBlock=some g→g ∉ F):w'.ownsRow 0 e size v n xs:=by
 refine ⟨h.1,?_⟩;rcases h.2 with hn|⟨g,cap,cur,hv,hb,hg,rest⟩
 ·exact .inl hn
 exact .inr ⟨g,cap,cur,hv,hb,hk.heap hg (hF g (by rw [hv];rfl)),rest⟩
theorem yga {w:World} {e:TypeId} {size:Nat} {v:Value} {n:Nat} {xs:List Value} (h:w.ownsRow 0 e size v n xs):∃ po pc,v = .slice po n pc:=by
 rcases h.2 with ⟨hv,h0⟩|⟨g,cap,cur,hv,_⟩
 ·exact ⟨none,0,by rw [hv,h0]⟩
 exact ⟨_,cap,hv⟩
theorem one_c (w:World):Calls prog 152 #[] w fun e w'=>e = .returned (zv 1)∧Keep [] w w':=by
 have Hm:=jX (FromInt_c 1 (by decide) (by decide));unfold zv at Hm ⊢;generalize sgB 1=nr at *;generalize mgS 1=sr at *;go_enter func152,ntmps152
 go_wp2_with fail;obtain⟨W,ga,hW,ega,Bga,hga,hgW,HkW⟩:=al1h w (.cells #[.bool false,.string ⟨#[]⟩] 26);rw [← hW];try rw [ega]
 clear hW ega;refine (Hm.out W).mono ?_;rintro e wz ⟨rfl,hk_wz⟩;dsimp only;clear Hm;replace Bga:=jH hk_wz Bga;replace HkW:=jX (HkW.out.tz hk_wz);clear hk_wz;obtain⟨pga,fga,lga⟩:=jQ Bga;go_wp2_with fail;refine bodyPost_ret (v:=.agg #[.bool nr,.string sr]) ?_ rfl ⟨rfl,by repeat (first|(with_reducible exact HkW.out)|(refine Keep.sP ?_ _ _ _ (by omega))|(refine Keep.aP ?_ _)|(refine Keep.dP ?_))⟩;rw [yac rfl];go_simp
theorem yda (a b:Int) (ha:Fit 100000000000 a) (hb:Fit 100000000000 b) (h0:0<b) (w:World) :
  Calls prog 188 #[zv a,zv b] w fun e w'=>e = .returned (zv (a / b))∧Keep [] w w':=by
 have Hm:=jX (DivMod_c a b ha hb h0);unfold zv at Hm ⊢;generalize sgB (a / b)=nr at *;generalize mgS (a / b)=sr at *;generalize sgB (a % b)=nr2 at *;generalize mgS (a % b)=sr2 at *;generalize sgB a=na at *;generalize sgB b=nb at *;generalize mgS a=sa at *;generalize mgS b=sb at *;clear ha hb h0;go_enter func188,ntmps188
 go_wp2_with fail;obtain⟨W,ga,gb,gc,hW,ega,egb,egc,Bga,Bgb,Bgc,hga,hgb,hgc,hgW,HkW⟩:=al3h w (.cells #[.bool na,.string sa] 26) (.cells #[.bool nb,.string sb] 26) (.cells #[.bool false,.string ⟨#[]⟩] 26);rw [← hW];try rw [egc]
 try rw [egb]
 try rw [ega]
 clear hW ega egb egc;refine (Hm.out W).mono ?_;rintro e wz ⟨rfl,hk_wz⟩;dsimp only;clear Hm;replace Bga:=jH hk_wz Bga;replace Bgb:=jH hk_wz Bgb;replace Bgc:=jH hk_wz Bgc;replace HkW:=jX (HkW.out.tz hk_wz);clear hk_wz;obtain⟨pgc,fgc,lgc⟩:=jQ Bgc;go_wp2_with fail;refine bodyPost_ret (v:=.agg #[.bool nr,.string sr]) ?_ rfl ⟨rfl,by repeat (first|(with_reducible exact HkW.out)|(refine Keep.sP ?_ _ _ _ (by omega))|(refine Keep.aP ?_ _)|(refine Keep.dP ?_))⟩;rw [yac rfl];go_simp
theorem eqZ_str (s t:ByteArray) (w:World):(binOp .eql 26 (.agg #[.bool false,.string s]) (.agg #[.bool false,.string t])).run prog w = .ok (.bool (decide (s=t))) w:=by
 rw [run_eql_struct,show (10000:Nat)=9998+2 from rfl,yfB];simp [Result.andThen]
theorem Den_c (q:Rat) (w:World) :
  Calls prog 166 #[rv q] w fun e w'=>e = .returned (zv (q.den:Int))∧Keep [] w w':=by
 have hgd:=eqZ_g;unfold rv;by_cases h1:q.den=1
 ·rw [ydD h1,h1]
  have Hm:=jX one_c;have heq:∀ w,(binOp .eql 26 (.agg #[.bool false,.string ⟨#[]⟩]) (.agg #[.bool false,.string ⟨#[]⟩])).run prog w = .ok (.bool true) w:=fun w=>by rw [eqZ_str];simp
  rw [show (((1:Nat):Int))=1 from rfl]
  unfold zv at Hm ⊢;generalize sgB 1=nr at *;generalize mgS 1=sr at *;generalize sgB q.num=na at *;generalize mgS q.num=sa at *;clear h1;go_enter func166,ntmps166
  go_wp2_with fail;obtain⟨W,ga,gb,hW,ega,egb,Bga,Bgb,hga,hgb,hgW,HkW⟩:=al2h w (.cells #[.bool na,.string sa,.bool false,.string ⟨#[]⟩] 28) (.cells #[.bool false,.string ⟨#[]⟩] 26);rw [← hW];try rw [egb]
  try rw [ega]
  clear hW ega egb;refine (Hm.out W).mono ?_;rintro e wz ⟨rfl,hk_wz⟩;dsimp only;clear Hm;replace Bga:=jH hk_wz Bga;replace Bgb:=jH hk_wz Bgb;replace HkW:=jX (HkW.out.tz hk_wz);clear hk_wz;obtain⟨pgb,fgb,lgb⟩:=jQ Bgb;go_wp2_with fail;refine bodyPost_ret (v:=.agg #[.bool nr,.string sr]) ?_ rfl ⟨rfl,by repeat (first|(with_reducible exact HkW.out)|(refine Keep.sP ?_ _ _ _ (by omega))|(refine Keep.aP ?_ _)|(refine Keep.dP ?_))⟩;rw [yac rfl];go_simp
 rw [yfE h1];have hne:magS q.den≠⟨#[]⟩:=fun h=>q.den_nz (ybx.1 h);have heq:∀ w,(binOp .eql 26 (.agg #[.bool false,.string (magS q.den)]) (.agg #[.bool false,.string ⟨#[]⟩])).run prog w = .ok (.bool false) w:=fun w=>by rw [eqZ_str];simp [hne]
 unfold zv;rw [yfG,yft];generalize magS q.den=sr at *;generalize sgB q.num=na at *;generalize mgS q.num=sa at *;clear h1 hne;go_enter func166,ntmps166
 go_wp2_with fail;have HkW:=jX (Keep.refl [] w);refine bodyPost_ret (v:=.agg #[.bool false,.string sr]) ?_ rfl ⟨rfl,by repeat (first|(with_reducible exact HkW.out)|(refine Keep.sP ?_ _ _ _ (by omega))|(refine Keep.aP ?_ _)|(refine Keep.dP ?_))⟩;rw [yac rfl];go_simp
theorem ycs (a b:Int) (ha:Fit 100000000000 a) (hb:Fit 100000000000 b) (h0:0<b) (w:World) :
  Calls prog 155 #[zv a,zv b] w fun e w'=>e = .returned (rv (Rat.divInt a b))∧Keep [] w w':=by
 have hgd:=eqZ_g;have Hs:=jX (Sign_c b);rw [show zsgn b=1 by unfold zsgn;rw [if_neg (by omega),if_neg (by omega)]] at Hs
 have hgp:0<Int.gcd a b:=Int.gcd_pos_of_ne_zero_right _ (by omega)
 have hgf:Fit 100000000000 (Int.gcd a b:Nat):=by
  refine hb.le ?_;rw [Int.natAbs_natCast];exact Nat.le_of_dvd (by omega) (Int.gcd_dvd_natAbs_right a b)
 have Hg:=jX (Gcd_c a b ha hb);have Hq1:=jX (yda a (Int.gcd a b:Nat) ha hgf (by omega));have Hq2:=jX (yda b (Int.gcd a b:Nat) hb hgf (by omega));have Hone:=jX one_c
 have hn:(Rat.divInt a b).num=a / (Int.gcd a b:Nat):=by
  rw [Rat.num_divInt,Int.sign_eq_one_of_pos h0,Int.one_mul,Int.gcd_comm]
 have hd:(((Rat.divInt a b).den:Nat):Int)=b / (Int.gcd a b:Nat):=by
  rw [Rat.den_divInt,if_neg (by omega),Int.gcd_comm];push_cast
  rw [Int.natAbs_of_nonneg (by omega)]
 have hdec:=yhW (b / (Int.gcd a b:Nat)) 1;have hdn:∀ n:Nat,(n:Int)=b / (Int.gcd a b:Nat)→sgB (b / (Int.gcd a b:Nat))=false∧mgS (b / (Int.gcd a b:Nat))=magS n:=fun n e=>by rw [← e,yft,yfG];exact ⟨rfl,rfl⟩
 obtain⟨hd1,hd2⟩:=hdn _ hd;have hd3:b / (Int.gcd a b:Nat)=1↔(Rat.divInt a b).den=1:=by rw [← hd];omega
 unfold zv at Hs Hg Hq1 Hq2 Hone;unfold rv zv;rw [hn];have hgs:sgB (Int.gcd a b:Nat)=false:=yft _;simp only [hgs] at Hg Hq1 Hq2;generalize mgS (Int.gcd a b:Nat)=sg at *;generalize hne:a / ((Int.gcd a b:Nat):Int)=n' at *;generalize hde:b / ((Int.gcd a b:Nat):Int)=d' at *;simp only [hd1,hd2] at Hq2 hdec;generalize sgB a=na at *;generalize sgB b=nb at *;generalize mgS a=sa at *;generalize mgS b=sb at *;generalize sgB n'=nq at *;generalize mgS n'=sq at *;generalize sgB 1=n1 at *;generalize mgS 1=s1 at *;clear ha hb h0 hgf hgp hn hd hdn hd1 hgs hne hde hd2;by_cases h1:(Rat.divInt a b).den=1
 ·rw [ydD h1]
  have hdt:decide (d'=1)=true:=by simpa using hd3.2 h1
  rw [hdt] at hdec;generalize magS (Rat.divInt a b).den=sd at *;clear hd3 h1 hdt;go_enter func155,ntmps155
  go_wp2_with fail;obtain⟨W,ga,gb,gc,hW,ega,egb,egc,Bga,Bgb,Bgc,hga,hgb,hgc,hgW,HkW⟩:=al3h w (.cells #[.bool na,.string sa] 26) (.cells #[.bool nb,.string sb] 26) (.cells #[.bool false,.string ⟨#[]⟩,.bool false,.string ⟨#[]⟩] 28);rw [← hW];try rw [egc]
  try rw [egb]
  try rw [ega]
  clear hW ega egb egc;refine (Hs.out W).mono ?_;rintro e w1 ⟨rfl,hk1⟩;dsimp only;clear Hs;replace Bga:=jH hk1 Bga;replace Bgb:=jH hk1 Bgb;replace Bgc:=jH hk1 Bgc;replace HkW:=jX (HkW.out.tz hk1);clear hk1;obtain⟨pga,fga,lga⟩:=jQ Bga;obtain⟨pgb,fgb,lgb⟩:=jQ Bgb;go_wp2_with fail;refine (Hg.out w1).mono ?_;rintro e w2 ⟨rfl,hk2⟩;dsimp only;clear Hg pga pgb fga fgb lga lgb;replace Bga:=jH hk2 Bga;replace Bgb:=jH hk2 Bgb;replace Bgc:=jH hk2 Bgc;replace HkW:=jX (HkW.out.tz hk2);clear hk2;obtain⟨pga,fga,lga⟩:=jQ Bga;obtain⟨pgb,fgb,lgb⟩:=jQ Bgb;obtain⟨pgc,fgc,lgc⟩:=jQ Bgc;go_wp2_with fail;obtain⟨W2,gd,hW2,egd,bgd,hgd,hgW2,hkW2⟩:=al1 w2 (.cells #[.bool false,.string sg] 26);rw [← hW2];try rw [egd]
  have Bgd:=jX bgd;clear hW2 egd bgd;clear pga pgb pgc fga fgb fgc lga lgb lgc;replace Bga:=jH hkW2 Bga;replace Bgb:=jH hkW2 Bgb;replace Bgc:=jH hkW2 Bgc;replace HkW:=jX (HkW.out.tz hkW2);clear hkW2;have kga:=yag Bga.out;have kgb:=yag Bgb.out;have kgd:=yag Bgd.out;have Q1:Hid (∀ m:KW W2,Calls prog 188 #[.agg #[.bool na,.string sa],.agg #[.bool false,.string sg]] (Wk W2 m) fun e w'=>e = .returned (.agg #[.bool nq,.string sq])∧∃ m,w'=Wk W2 m):=fun m=>qk m (Hq1.out _);have Q2:Hid (∀ m:KW W2,Calls prog 188 #[.agg #[.bool nb,.string sb],.agg #[.bool false,.string sg]] (Wk W2 m) fun e w'=>e = .returned (.agg #[.bool false,.string sd])∧∃ m,w'=Wk W2 m):=fun m=>qk m (Hq2.out _);clear Hq1 Hq2;refine yah 6 (by kernel_rfl) (by kernel_rfl) ?_;simp only [List.take_succ_cons,List.take_zero,List.drop_succ_cons,List.drop_zero]
  repeat (first
   | go_big_quiet_skip
   | (go_big_quiet_want;go_big_quiet_op;first|go_big_quiet_on|go_big_quiet_call (first
    | (go_at_call 188;with_reducible exact (Q1).out _)|(go_at_call 188;with_reducible exact (Q2).out _))))
  refine wpQuiet_nil ?_;rintro wz ⟨⟨_,hk_wz⟩,rfl⟩;clear kga kgb kgd Q1 Q2;replace Bga:=jH hk_wz Bga;replace Bgb:=jH hk_wz Bgb;replace Bgc:=jH hk_wz Bgc;replace Bgd:=jH hk_wz Bgd;replace HkW:=jX (HkW.out.tz hk_wz);clear hk_wz;obtain⟨pga,fga,lga⟩:=jQ Bga;obtain⟨pgb,fgb,lgb⟩:=jQ Bgb;go_wp2_with fail;clear pga pgb fga fgb lga lgb;obtain⟨W2,hW2,bga,hkW2⟩:=st2 (x:=.bool nq) (y:=.string sq) (Bga.out:(wz).heap[ga]? = _);rw [← hW2];clear Bga;have Bga:=jX bga;clear hW2 bga;have B2gb:=jX (hkW2.heap Bgb.out (by simp;omega));clear Bgb;have Bgb:=B2gb;clear B2gb;have B2gc:=jX (hkW2.heap Bgc.out (by simp;omega));clear Bgc;have Bgc:=B2gc;clear B2gc;have HkW2:=jX (HkW.out.trans hkW2 (by simp;omega));clear HkW hkW2;have HkW:=HkW2;clear HkW2;obtain⟨W3,rfl⟩:∃ x:World,x=W2:=⟨_,rfl⟩;obtain⟨W2,hW2,bgb,hkW2⟩:=st2 (x:=.bool false) (y:=.string sd) (Bgb.out:(W3).heap[gb]? = _);rw [← hW2];clear Bgb;have Bgb:=jX bgb;clear hW2 bgb;have B2ga:=jX (hkW2.heap Bga.out (by simp;omega));clear Bga;have Bga:=B2ga;clear B2ga;have B2gc:=jX (hkW2.heap Bgc.out (by simp;omega));clear Bgc;have Bgc:=B2gc;clear B2gc;have HkW2:=jX (HkW.out.trans hkW2 (by simp;omega));clear HkW hkW2;have HkW:=HkW2;clear HkW2;have kgb:=yag Bgb.out;have Q1:Hid (∀ m:KW W2,Calls prog 152 #[] (Wk W2 m) fun e w'=>e = .returned (.agg #[.bool n1,.string s1])∧∃ m,w'=Wk W2 m):=fun m=>qk m (Hone.out _);clear Hone;refine yad (by kernel_rfl) (by kernel_rfl) ?_
  repeat (first
   | go_big_quiet_skip
   | (go_big_quiet_want;go_big_quiet_op;first|go_big_quiet_on|go_big_quiet_call (first
    | (go_at_call 152;with_reducible exact (Q1).out _))))
  refine wpQuiet_nil ?_;rintro w9 ⟨⟨_,hk_w9⟩,rfl⟩;clear kgb Q1 Bgd;replace Bga:=jH hk_w9 Bga;replace Bgb:=jH hk_w9 Bgb;replace Bgc:=jH hk_w9 Bgc;replace HkW:=jX (HkW.out.tz hk_w9);clear hk_w9;obtain⟨pga,fga,lga⟩:=jQ Bga;obtain⟨pgb,fgb,lgb⟩:=jQ Bgb;obtain⟨pgc,fgc,lgc⟩:=jQ Bgc;go_wp2_with fail;refine bodyPost_ret (v:=.agg #[.bool nq,.string sq,.bool false,.string ⟨#[]⟩]) ?_ rfl ⟨rfl,by repeat (first|(with_reducible exact HkW.out)|(refine Keep.sP ?_ _ _ _ (by omega))|(refine Keep.aP ?_ _)|(refine Keep.dP ?_))⟩;rw [yac rfl];go_simp
 rw [yfE h1]
 have hdt:decide (d'=1)=false:=by
  rw [decide_eq_false_iff_not];exact fun h=>h1 (hd3.1 h)
 rw [hdt] at hdec;generalize magS (Rat.divInt a b).den=sd at *;clear hd3 h1 hdt;go_enter func155,ntmps155
 go_wp2_with fail;obtain⟨W,ga,gb,gc,hW,ega,egb,egc,Bga,Bgb,Bgc,hga,hgb,hgc,hgW,HkW⟩:=al3h w (.cells #[.bool na,.string sa] 26) (.cells #[.bool nb,.string sb] 26) (.cells #[.bool false,.string ⟨#[]⟩,.bool false,.string ⟨#[]⟩] 28);rw [← hW];try rw [egc]
 try rw [egb]
 try rw [ega]
 clear hW ega egb egc;refine (Hs.out W).mono ?_;rintro e w1 ⟨rfl,hk1⟩;dsimp only;clear Hs;replace Bga:=jH hk1 Bga;replace Bgb:=jH hk1 Bgb;replace Bgc:=jH hk1 Bgc;replace HkW:=jX (HkW.out.tz hk1);clear hk1;obtain⟨pga,fga,lga⟩:=jQ Bga;obtain⟨pgb,fgb,lgb⟩:=jQ Bgb;go_wp2_with fail;refine (Hg.out w1).mono ?_;rintro e w2 ⟨rfl,hk2⟩;dsimp only;clear Hg pga pgb fga fgb lga lgb;replace Bga:=jH hk2 Bga;replace Bgb:=jH hk2 Bgb;replace Bgc:=jH hk2 Bgc;replace HkW:=jX (HkW.out.tz hk2);clear hk2;obtain⟨pga,fga,lga⟩:=jQ Bga;obtain⟨pgb,fgb,lgb⟩:=jQ Bgb;obtain⟨pgc,fgc,lgc⟩:=jQ Bgc;go_wp2_with fail;obtain⟨W2,gd,hW2,egd,bgd,hgd,hgW2,hkW2⟩:=al1 w2 (.cells #[.bool false,.string sg] 26);rw [← hW2];try rw [egd]
 have Bgd:=jX bgd;clear hW2 egd bgd;clear pga pgb pgc fga fgb fgc lga lgb lgc;replace Bga:=jH hkW2 Bga;replace Bgb:=jH hkW2 Bgb;replace Bgc:=jH hkW2 Bgc;replace HkW:=jX (HkW.out.tz hkW2);clear hkW2;have kga:=yag Bga.out;have kgb:=yag Bgb.out;have kgd:=yag Bgd.out;have Q1:Hid (∀ m:KW W2,Calls prog 188 #[.agg #[.bool na,.string sa],.agg #[.bool false,.string sg]] (Wk W2 m) fun e w'=>e = .returned (.agg #[.bool nq,.string sq])∧∃ m,w'=Wk W2 m):=fun m=>qk m (Hq1.out _);have Q2:Hid (∀ m:KW W2,Calls prog 188 #[.agg #[.bool nb,.string sb],.agg #[.bool false,.string sg]] (Wk W2 m) fun e w'=>e = .returned (.agg #[.bool false,.string sd])∧∃ m,w'=Wk W2 m):=fun m=>qk m (Hq2.out _);clear Hq1 Hq2;refine yah 6 (by kernel_rfl) (by kernel_rfl) ?_;simp only [List.take_succ_cons,List.take_zero,List.drop_succ_cons,List.drop_zero]
 repeat (first
  | go_big_quiet_skip
  | (go_big_quiet_want;go_big_quiet_op;first|go_big_quiet_on|go_big_quiet_call (first
   | (go_at_call 188;with_reducible exact (Q1).out _)|(go_at_call 188;with_reducible exact (Q2).out _))))
 refine wpQuiet_nil ?_;rintro wz ⟨⟨_,hk_wz⟩,rfl⟩;clear kga kgb kgd Q1 Q2;replace Bga:=jH hk_wz Bga;replace Bgb:=jH hk_wz Bgb;replace Bgc:=jH hk_wz Bgc;replace Bgd:=jH hk_wz Bgd;replace HkW:=jX (HkW.out.tz hk_wz);clear hk_wz;obtain⟨pga,fga,lga⟩:=jQ Bga;obtain⟨pgb,fgb,lgb⟩:=jQ Bgb;go_wp2_with fail;clear pga pgb fga fgb lga lgb;obtain⟨W2,hW2,bga,hkW2⟩:=st2 (x:=.bool nq) (y:=.string sq) (Bga.out:(wz).heap[ga]? = _);rw [← hW2];clear Bga;have Bga:=jX bga;clear hW2 bga;have B2gb:=jX (hkW2.heap Bgb.out (by simp;omega));clear Bgb;have Bgb:=B2gb;clear B2gb;have B2gc:=jX (hkW2.heap Bgc.out (by simp;omega));clear Bgc;have Bgc:=B2gc;clear B2gc;have HkW2:=jX (HkW.out.trans hkW2 (by simp;omega));clear HkW hkW2;have HkW:=HkW2;clear HkW2;obtain⟨W3,rfl⟩:∃ x:World,x=W2:=⟨_,rfl⟩;obtain⟨W2,hW2,bgb,hkW2⟩:=st2 (x:=.bool false) (y:=.string sd) (Bgb.out:(W3).heap[gb]? = _);rw [← hW2];clear Bgb;have Bgb:=jX bgb;clear hW2 bgb;have B2ga:=jX (hkW2.heap Bga.out (by simp;omega));clear Bga;have Bga:=B2ga;clear B2ga;have B2gc:=jX (hkW2.heap Bgc.out (by simp;omega));clear Bgc;have Bgc:=B2gc;clear B2gc;have HkW2:=jX (HkW.out.trans hkW2 (by simp;omega));clear HkW hkW2;have HkW:=HkW2;clear HkW2;have kgb:=yag Bgb.out;have Q1:Hid (∀ m:KW W2,Calls prog 152 #[] (Wk W2 m) fun e w'=>e = .returned (.agg #[.bool n1,.string s1])∧∃ m,w'=Wk W2 m):=fun m=>qk m (Hone.out _);clear Hone;refine yad (by kernel_rfl) (by kernel_rfl) ?_
 repeat (first
  | go_big_quiet_skip
  | (go_big_quiet_want;go_big_quiet_op;first|go_big_quiet_on|go_big_quiet_call (first
   | (go_at_call 152;with_reducible exact (Q1).out _))))
 refine wpQuiet_nil ?_;rintro w9 ⟨⟨_,hk_w9⟩,rfl⟩;clear kgb Q1 Bgd;replace Bga:=jH hk_w9 Bga;replace Bgb:=jH hk_w9 Bgb;replace Bgc:=jH hk_w9 Bgc;replace HkW:=jX (HkW.out.tz hk_w9);clear hk_w9;obtain⟨pga,fga,lga⟩:=jQ Bga;obtain⟨pgb,fgb,lgb⟩:=jQ Bgb;obtain⟨pgc,fgc,lgc⟩:=jQ Bgc;go_wp2_with fail;refine bodyPost_ret (v:=.agg #[.bool nq,.string sq,.bool false,.string sd]) ?_ rfl ⟨rfl,by repeat (first|(with_reducible exact HkW.out)|(refine Keep.sP ?_ _ _ _ (by omega))|(refine Keep.aP ?_ _)|(refine Keep.dP ?_))⟩;rw [yac rfl];go_simp
end Go.Proofs.YtpgffjjpiafhpaaGreatDoor
