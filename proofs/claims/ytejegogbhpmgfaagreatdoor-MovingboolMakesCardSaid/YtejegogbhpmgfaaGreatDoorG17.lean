/- Parts of a proof: Vm Mh Nw Kr. -/
import Derived.Lib.AppendZeros
import Derived.Deep.DeepCutAuto
import Derived.Deep.Cut
import Derived.Deep.CutRange
import Derived.Shelf.Strings.Trim
import Derived.Shelf.Small.Wraps
import Derived.Test.YtejegogbhpmgfaaGreatDoorG16
import Derived.Test.YtejegogbhpmgfaaGreatDoorG02
import Derived.Test.YtejegogbhpmgfaaGreatDoorG07
import Derived.Test.YtejegogbhpmgfaaGreatDoorG10
import Derived.Test.YtejegogbhpmgfaaGreatDoorG13
set_option linter.unusedVariables false
set_option linter.unusedSimpArgs false
set_option maxRecDepth 100000
set_option maxHeartbeats 8000000
namespace Go.Proofs.YtejegogbhpmgfaaGreatDoor
open Go.RowKit Tryz
section
open Classical
theorem ybW (x y:K) (r:List K):compactS (x :: y :: r)=if x=y then compactS (y :: r) else x :: compactS (y :: r):=by
 rw [compactS];by_cases h:x=y
 ·rw [if_pos h,if_pos h]
 rw [if_neg h,if_neg h]
theorem yfR (m:List K) (x y:K):compactS (m++[x,y])=if x=y then compactS (m++[x]) else compactS (m++[x])++[y]:=by
 induction m with
 | nil =>
  show compactS [x,y]=if x=y then compactS [x] else compactS [x]++[y]
  unfold compactS;by_cases h:x=y
  ·subst h;rw [if_pos rfl,if_pos rfl];rfl
  rw [if_neg h,if_neg h];rfl
 | cons a m ih =>
  cases m with
  | nil =>
   have ih:compactS [x,y]=if x=y then compactS [x] else compactS [x]++[y]:=ih
   show compactS (a :: x :: [y])=if x=y then compactS (a :: x :: []) else compactS (a :: x :: [])++[y]
   have e1:compactS (a :: x :: [y])=if a=x then compactS (x :: [y]) else a :: compactS (x :: [y]):=ybW _ _ _
   have e2:compactS (a :: x :: [])=if a=x then compactS (x :: []) else a :: compactS (x :: []):=ybW _ _ _
   rw [e1,e2,ih];by_cases h:a=x<;>by_cases h2:x=y<;>simp [h,h2]
  | cons b m =>
   have e1:compactS (a :: b :: m++[x,y])=if a=b then compactS (b :: m++[x,y]) else a :: compactS (b :: m++[x,y]):=ybW _ _ _
   have e2:compactS (a :: b :: m++[x])=if a=b then compactS (b :: m++[x]) else a :: compactS (b :: m++[x]):=ybW _ _ _
   rw [e1,e2,ih];by_cases h:a=b<;>by_cases h2:x=y<;>simp [h,h2]
theorem ygm (l:List K) (j:Nat) (h:j+1<l.length):compactS (l.take (j+2))=if l[j+1]=l[j] then compactS (l.take (j+1)) else compactS (l.take (j+1))++[l[j+1]]:=by
 have e1:l.take (j+1)=l.take j++[l[j]]:=List.take_succ_eq_append_getElem (by omega)
 have e2:l.take (j+2)=l.take j++[l[j],l[j+1]]:=by
  rw [List.take_succ_eq_append_getElem h,e1,List.append_assoc];rfl
 rw [e2,e1,yfR];by_cases h:l[j]=l[j+1]
 ·rw [if_pos h,if_pos h.symm]
 rw [if_neg h,if_neg (fun e=>h e.symm)]
theorem yde (l:List K) (h:l.length<2):compactS l=l:=by
 match l,h with
 | [],_=>rfl
 | [x],_=>rfl
theorem kC_fac (x:K):(kC x).toList=kcells x.1∧(kC x).size=9∧(kC x).all (·.oneCell')=true:=⟨rfl,rfl,all_oneCell_toArray (yaS x.1)⟩
theorem eqK_g:prog.eqGuardType prog.depth 36=false:=by kernel_rfl
theorem flatK_mid (a b:List K) (s t:K):setL ((a++s :: b).flatMap fun x=>kcells x.1) (a.length*9) (kcells t.1)=(a++t :: b).flatMap fun x=>kcells x.1:=by
 have ha:(a.flatMap fun x=>kcells x.1).length=a.length*9:=ybz (fun x:K=>kcells x.1) (fun x=>yav x.1) a;rw [List.flatMap_append,List.flatMap_append,List.flatMap_cons,List.flatMap_cons];generalize (a.flatMap fun x=>kcells x.1)=F at *;generalize (b.flatMap fun x=>kcells x.1)=G at *;rw [← ha];unfold setL;rw [List.take_left]
 have e:(F++(kcells s.1++G)).drop (F.length+(kcells t.1).length)=G:=by
  rw [← List.drop_drop,List.drop_left,yav,← yav s.1,List.drop_left]
 rw [e,List.append_assoc]
theorem OK_.len {w0 w:World} {ov:Option Addr} {n c:Nat} {l:List K} (h:OK_ w0 w (.slice ov n c) l):n=l.length:=by
 obtain⟨po,pc,e⟩:=h.form;injection e
theorem OK_.setm {w0 w:World} {g n c:Nat} {a b:List K} {s:K} (t:K) (h:OK_ w0 w (.slice (some ⟨g,0,none⟩) n c) (a++s :: b)) :
  OK_ w0 (w.setCells g (a.length*9) (kcells t.1)) (.slice (some ⟨g,0,none⟩) n c) (a++t :: b):=by
 have hr:=h.row;have hlen:(a++s :: b).length=(a++t :: b).length:=by simp
 have hbig:a.length+1≤(a++s :: b).length:=by simp
 have hn:=OK_.len h;subst hn;rw [hlen] at *;obtain⟨h1,k1⟩:=ybB hr (o:=a.length*9) (vs:=kcells t.1) (by rw [yav];omega);rw [flatK_mid a b s t] at h1;exact ⟨h1,h.base,h.keep.trans k1 (by simp;exact h.base g rfl)⟩
theorem OK_.there {w0 w:World} {g n c:Nat} {l:List K} (h:OK_ w0 w (.slice (some ⟨g,0,none⟩) n c) l) (o m:Nat) (hm:o+m≤n*9):w.there g o m:=by
 have hr:=h.row;have hn:=OK_.len h;rw [← hn] at hr;exact yeV hr hm
theorem OK_.cut {w0 w:World} {g n c:Nat} {a b:List K} (h:OK_ w0 w (.slice (some ⟨g,0,none⟩) n c) (a++b)) (vs:List Value) (hv:vs.length=b.length*9) :
  KR (w.setCells g (a.length*9) vs) (.slice (some ⟨g,0,none⟩) a.length c) a∧Keep [] w0 (w.setCells g (a.length*9) vs):=by
 have hr:=h.row;have hn:=OK_.len h;subst hn;have hl:(a++b).length=a.length+b.length:=List.length_append;obtain⟨h1,k1⟩:=ybB hr (o:=a.length*9) (vs:=vs) (by omega)
 have hc:a.length≤c:=by
  rcases hr.2 with ⟨hv,_⟩|⟨g',cap,cur,hv,_,hg,hnc,_⟩
  ·cases hv
  injection hv with _ _ e3;omega
 have hx:=World.ownsRow.cells (g:=g) h1 rfl
 have hg:g<(w.setCells g (a.length*9) vs).heap.size:=by
  rcases h1.2 with ⟨hv,_⟩|⟨g',cap,cur,hv,_,hg,_⟩
  ·cases hv
  injection hv with e1;injection e1 with e1;injection e1 with e1;subst e1;exact yab hg
 refine ⟨.inr ⟨g,0,c,rfl,hc,hg,fun i v hi=>?_⟩,h.keep.trans k1 (by simp;exact h.base g rfl)⟩
 have hil:i<a.length*9:=by
  have:=(List.getElem?_eq_some_iff.1 hi).1;rwa [ybz (fun x:K=>kcells x.1) (fun x=>yav x.1)] at this
 have:=hx i v (by
  have hfl:(a.flatMap fun x=>kcells x.1).length=a.length*9:=ybz (fun x:K=>kcells x.1) (fun x=>yav x.1) a;rw [List.flatMap_append];generalize (a.flatMap fun x=>kcells x.1)=F at *;unfold setL;rw [List.append_assoc,List.getElem?_append_left (by rw [List.length_take,List.length_append];omega),List.getElem?_take_of_lt hil,List.getElem?_append_left (by omega)]
  exact hi)
 rwa [Addr.add_lit] at this
def rZ:Array Value:=#[.bool false,.string ⟨#[]⟩,.bool false,.string ⟨#[]⟩,.bool false,.string ⟨#[]⟩,.bool false,.string ⟨#[]⟩,.bool false]
theorem rZ_zero (w:World):∃ z,(zeroValue 36).run prog w = .ok z w∧z.cells=rZ:=by
 obtain⟨i,z,hi,hz,hs,hb,hzc⟩:=real_info;refine ⟨z,?_,hzc⟩;unfold zeroValue typeInfo;simp [hi,hz]
theorem yeY (n:Nat):(Builtin.zeroCells rZ n).toList.length=n*9:=by
 unfold Builtin.zeroCells;simp [rZ]
theorem zeros_one (n:Nat):∀ v∈(Builtin.zeroCells rZ n).toList,v.oneCell'=true:=by
 intro v hv;unfold Builtin.zeroCells at hv;simp only [Array.toList_map,List.mem_map,Array.toList_range,List.mem_range] at hv;obtain⟨i,hi,rfl⟩:=hv;have h9:rZ.size=9:=rfl;have hm:i % rZ.size<9:=by rw [h9];omega
 generalize i % rZ.size=j at *;rcases j with _|_|_|_|_|_|_|_|_|j;all_goals first|rfl|omega
theorem clear_k {ty:TypeId} (w:World) (b o n c:Nat) (hn:0<n) (ht:w.there b o (n*9)) :
  (Builtin.clear_ #[56] ty #[.slice (some ⟨b,o,none⟩) n c]).run prog w = .ok (.tuple #[]) (w.setCells b o (Builtin.zeroCells rZ n).toList):=by
 have hz:∀ w,∃ z,(zeroValue 36).run prog w = .ok z w∧z.cells=rZ:=rZ_zero;have hst:=run_storeCells_cells (P:=prog) b o (Builtin.zeroCells rZ n).toList 0 w (fun j hj=>(ht j (by rw [yeY] at hj;exact hj)).1) (fun j hj=>(ht j (by rw [yeY] at hj;exact hj)).2) (zeros_one n);simp only [Nat.add_zero] at hst;obtain⟨z,hz1,hz2⟩:=hz w;obtain⟨m,rfl⟩:∃ m,n=m+1:=⟨n-1,by omega⟩;simp [Builtin.clear_,run_underlying underlying56,hz1,hz2,hst]
theorem yjc {P:Program} {o:Oper} {ev:Operand→Value} {w w':World} (x:Operand) (t:TypeId) (vx:Value) (ho:o.op = .call { callee:=.builtin .clear,args:=#[x],argTypes:=#[t] }) (hx:ev x=vx)
  (h:(Builtin.clear_ #[t] o.type #[vx]).run P w = .ok (.tuple #[]) w'):(execOp ev o).run P w = .ok (.value (.tuple #[])) w':=by
 unfold execOp;simp only [ho,resolve,invoke,builtin,Sem.run_bind,Sem.run_pure,Result.andThen_ok,List.map_toArray,List.map_cons,List.map_nil,hx,h]
end
section
open Classical
theorem ydx {P:Program} {t ty e:TypeId} {i:TypeInfo} (ht:P.underlying t=some (.slice e)) (hi:P.info? e=some i) (a:Option Addr) (c:Nat) (w:World) :
  (Builtin.append_ #[t,t] ty #[.slice none 0 0,.slice a 0 c]).run P w = .ok (.slice none 0 0) w:=by
 cases a<;>simp [Builtin.append_,run_underlying ht,sizeOf,typeInfo,hi,Builtin.lenOf,Builtin.firstCells,loadCells,loadCellsFrom]
theorem yfK (z:Array Value) (n:Nat):(Builtin.zeroCells z n).size=n*z.size:=by
 unfold Builtin.zeroCells;simp
theorem OE.zeros {α:Type} {enc:α→List Value} {e:TypeId} {k:Nat} (w:World) (z:Array Value) (hz:z.size=k) (n:Nat) (hn:n≤maxLen) :
  OE enc e k w (w.drew.alloc (.cells (Builtin.zeroCells z n++Builtin.zeroCells z (grownCap w n 0 e-n)) e)) (.slice (some ⟨w.heap.size,0,none⟩) 0 (grownCap w n 0 e)) []:=by
 have hk:Keep [] w (w.drew.alloc (.cells (Builtin.zeroCells z n++Builtin.zeroCells z (grownCap w n 0 e-n)) e)):=(Keep.drew [] w).tz (Keep.alloc [] _ _);refine ⟨⟨by simp,.inr ⟨w.heap.size,grownCap w n 0 e,_,rfl,Nat.zero_le _,World.alloc_heap_new w.drew _,Nat.zero_le _,grownCap_le_maxLen w n 0 e hn,?_,by simp⟩⟩,fun g hg=>?_,hk⟩
 ·have h:=grownCap_ge w n 0 e
  rw [Array.size_append,yfK,yfK,hz,← Nat.add_mul];congr 1
  omega
 simp [Value.ownBlock] at hg;omega
theorem grow_k (n:Nat) (hn:n≤1000000) (w:World) :
  Calls prog 112 #[.slice none 0 0,.int .i64 (n:Int)] w fun e w'=>∃ v,e = .returned v∧OK_ w w' v []∧(0<n→v.ownBlock≠none):=by
 by_cases h0:n=0
 ·subst h0
  go_enter func112,ntmps112
  go_wp2_with fail;go_ret
  exact ⟨_,rfl,OE.nil w,fun h=>absurd h (by decide)⟩
 obtain⟨i,z,hi,hz,hs,hb,hzc⟩:=real_info;have hr:=jX (Lib.run_append_nil_zeros (P:=prog) w 56 3 56 36 i z .i64 .i64 underlying56 underlying3 hi hz n (by omega) (by rw [hs];decide) (by omega) (by rw [hb];omega));have ho:=jX (OE.zeros (enc:=fun x:K=>kcells x.1) (e:=36) (k:=9) w z.cells (by rw [hzc];rfl) n (by unfold maxLen;omega));clear hi hz hs hb hzc;have hp:0<n:=by omega
 have hpi:(0:Int)<(n:Int):=by omega
 have hnn:¬ ((n:Int)<0):=by omega
 generalize Builtin.zeroCells z.cells n++Builtin.zeroCells z.cells (grownCap w n 0 36-n)=Z at *;generalize grownCap w n 0 36=C at *;go_enter func112,ntmps112
 go_wp2_with (at_builtin;refine Lib.wpList_append_run _ rfl _ _ _ _ rfl _ _ rfl rfl _ _ hr.out ?_)
 go_ret
 exact ⟨_,rfl,ho.out,fun h=>nomatch (show some w.heap.size=none from h)⟩
theorem OK_.bare {w0 w:World} {v:Value} (h:OK_ w0 w v []) (hv:v.ownBlock=none):v = .slice none 0 0:=by
 rcases h.row.2 with ⟨rfl,_⟩|⟨g,cap,cur,rfl,_⟩
 ·rfl
 simp [Value.ownBlock] at hv
theorem KR.app0 {ty:TypeId} {w0 w:World} {v y:Value} {l m:List K} (h:OK_ w0 w v l) (hv:v.ownBlock=none→l=[]) (hy:KR w y m) (hb:l.length+m.length≤1000000000) :
  ∃ v' w',(Builtin.append_ #[56,56] ty #[v,y]).run prog w = .ok v' w'∧OK_ w0 w' v' (l++m)∧(v'.ownBlock=none→l++m=[])∧∀ F,(∀ g,v.ownBlock=some g→g∈F)→Keep F w w':=by
 by_cases hc:v.ownBlock≠none∨0<m.length
 ·obtain⟨v',w',h1,h2,h3,h4⟩:=KR.app' (ty:=ty) h hc hy hb
  exact ⟨v',w',h1,h2,fun e=>absurd e h3,h4⟩
 have hvn:v.ownBlock=none:=Classical.byContradiction fun e=>hc (.inl e);have hm:m=[]:=List.eq_nil_of_length_eq_zero (by omega);have hl:=hv hvn;subst hl hm;have hv0:=h.bare hvn;subst hv0;obtain⟨i,z,hi,_⟩:=real_info;obtain⟨a,c,rfl,_⟩:=hy.form;exact ⟨_,w,ydx underlying56 hi a c w,h,fun _=>rfl,fun F _=>Keep.refl F w⟩
theorem concat_k (l m:List K) (w:World) (g:Nat) (va vb:Value) (hb:w.heap[g]? = some (.cells #[va,vb] 56)) (hl:KR w va l) (hm:KR w vb m) (h9:l.length+m.length≤1000000) :
  Calls prog 74 #[.slice (some ⟨g,0,none⟩) 2 2] w fun e w'=>∃ v,e = .returned v∧OK_ w w' v (l++m):=by
 have Bg:=jX hb;have HL:=jX hl;have HM:=jX hm;obtain⟨ao,ac,rfl,_⟩:=hl.form;obtain⟨bo,bc,rfl,_⟩:=hm.form;clear hb hl hm;have HG:=jX (fun u=>grow_k (l.length+m.length) h9 u);rw [Int.natCast_add] at HG;go_enter func74,ntmps74
 go_wp2_with fail;go_loopw [3,11] (fun sz c wr=>wr=w∧((c = .int .i64 0∧sz = .int .i64 0)∨(c = .int .i64 1∧sz = .int .i64 (l.length:Int))∨(c = .int .i64 2∧sz = .int .i64 ((l.length:Int)+(m.length:Int))))) (fun _ c _=>2-(intOf c).toNat)
 case atStart=>exact ⟨rfl,.inl ⟨rfl,rfl⟩⟩
 case round =>
  obtain⟨rfl,hrel⟩:=hrel;have pg:=yaa Bg.out;have hlm:IntKind.i64.wrap ((l.length:Int)+(m.length:Int))=(l.length:Int)+(m.length:Int):=IntWalk.i64_in _ (by omega);have hll:IntKind.i64.wrap (l.length:Int)=(l.length:Int):=IntWalk.i64_in _ (by omega);have hn1:¬ ((l.length:Int)<0):=by omega
  have hn2:¬ ((l.length:Int)+(m.length:Int)<0):=by omega
  rcases hrel with ⟨rfl,rfl⟩|⟨rfl,rfl⟩|⟨rfl,rfl⟩
  ·go_wp2_with fail
   go_roundw
   case rel=>exact ⟨by trivial,.inr (.inl ⟨rfl,rfl⟩)⟩
   case measure=>simp [intOf]
  ·go_wp2_with fail
   go_roundw
   case rel=>exact ⟨by trivial,.inr (.inr ⟨rfl,rfl⟩)⟩
   case measure=>simp [intOf]
  rename World=>w;clear hlm hll hn1;go_wp2_with fail;refine (HG.out _).mono ?_;rintro e w1 ⟨v0,rfl,ho0,hb0⟩;dsimp only;have Bg1:=jX (ho0.keep.heap Bg.out (by simp));have HL1:=jX (HL.out.later ho0.keep);have HM1:=jX (HM.out.later ho0.keep);have HO:=jX ho0;have HB:=jX hb0;clear ho0 hb0 pg hn2;go_wp2_with fail;go_loopw [6,27] (fun v c wr=>(c = .int .i64 0∧OK_ w wr v [])∨(c = .int .i64 1∧OK_ w wr v l∧(v.ownBlock=none→l=[]))∨(c = .int .i64 2∧OK_ w wr v (l++m))) (fun _ c _=>2-(intOf c).toNat)
  case atStart=>exact .inl ⟨rfl,HO.out⟩
  case round =>
   rcases hrel with ⟨rfl,ho⟩|⟨rfl,ho,hz⟩|⟨rfl,ho⟩
   ·have pg:=yaa (ho.keep.heap Bg.out (by simp))
    obtain⟨v4,u4,hr4,ho4,hz4,_⟩:=KR.app0 (ty:=56) ho (fun _=>rfl) (HL.out.later ho.keep) (by simp;omega);rw [List.nil_append] at ho4 hz4;have HO4:=jX ho4;have HZ4:=jX hz4;clear ho4 hz4 ho;go_upto_region 13 with (fail)
    refine wp_region_lit ?_;refine' yad (v:=_) (by rfl) (?ha) (fun K hK=>?ka)
    case ha=>(go_simp;try rfl)
    go_simp;refine hK _ _ ?_;clear hK K;refine' yad (v:=_) (by rfl) (?hb) (fun K hK=>?kb)
    case hb=>(go_simp;try rfl)
    go_simp;refine hK _ _ ?_;clear hK K;refine yaq (by rfl) (yas (.tmp 31) (.tmp 32) 56 _ _ _ rfl rfl rfl hr4) (fun K hK=>?_);go_simp;refine hK _ _ ?_;clear hK K hr4 pg;go_wp2_with fail;go_roundw
    case rel=>exact .inr (.inl ⟨rfl,HO4.out,HZ4.out⟩)
    case measure=>simp [intOf]
   ·have pg:=yaa (ho.keep.heap Bg.out (by simp))
    obtain⟨v4,u4,hr4,ho4,_,_⟩:=KR.app0 (ty:=56) ho hz (HM.out.later ho.keep) (by omega);have HO4:=jX ho4;clear ho4 hz ho;go_upto_region 13 with (fail)
    refine wp_region_lit ?_;refine' yad (v:=_) (by rfl) (?hc) (fun K hK=>?kc)
    case hc=>(go_simp;try rfl)
    go_simp;refine hK _ _ ?_;clear hK K;refine' yad (v:=_) (by rfl) (?hd) (fun K hK=>?kd)
    case hd=>(go_simp;try rfl)
    go_simp;refine hK _ _ ?_;clear hK K;refine yaq (by rfl) (yas (.tmp 31) (.tmp 32) 56 _ _ _ rfl rfl rfl hr4) (fun K hK=>?_);go_simp;refine hK _ _ ?_;clear hK K hr4 pg;go_wp2_with fail;go_roundw
    case rel=>exact .inr (.inr ⟨rfl,HO4.out⟩)
    case measure=>simp [intOf]
   have HO4:=jX ho;clear ho;go_wp2_with fail;go_ret
   exact ⟨_,rfl,HO4.out⟩
end
theorem gm_am (x k s:Nat) (h:k+x≤2*s):k*x≤s*s:=by
 rcases Nat.le_total x s with hx|hx
 ·obtain⟨t,rfl⟩:=Nat.le.dest hx
  have hk:k≤x+t+t:=by omega
  have h1:k*x≤(x+t+t)*x:=Nat.mul_le_mul_right _ hk;have h2:(x+t)*(x+t)=(x+t+t)*x+t*t:=by grind
  omega
 obtain⟨t,rfl⟩:=Nat.le.dest hx;by_cases hts:t≤s
 ·obtain⟨u,rfl⟩:=Nat.le.dest hts
  have hk:k≤u:=by omega
  have h1:k*(t+u+t)≤u*(t+u+t):=Nat.mul_le_mul_right _ hk;have h2:(t+u)*(t+u)=u*(t+u+t)+t*t:=by grind
  omega
 have hk:k=0:=by omega
 subst hk;rw [Nat.zero_mul];exact Nat.zero_le _
theorem newton_ge {n x s:Nat} (hx:0<x) (hs:s*s≤n):s≤(x+n / x) / 2:=by
 rw [Nat.le_div_iff_mul_le (by decide)];refine Nat.le_of_not_lt fun h=>?_
 have h1:n<(n / x+1)*x:=by
  have:=Nat.div_add_mod n x;have h2:=Nat.mod_lt n hx;have h3:(n / x+1)*x=x*(n / x)+x:=by grind
  omega
 have h2:=gm_am x (n / x+1) s (by omega);omega
theorem newton_lt {n x s:Nat} (hs:n<(s+1)*(s+1)) (hx:s<x):(x+n / x) / 2<x:=by
 have hx0:0<x:=by omega
 have h1:(s+1)*(s+1)≤x*x:=Nat.mul_le_mul hx hx
 have h2:n / x<x:=by
  rw [Nat.div_lt_iff_lt_mul hx0];omega
 omega
theorem yib (n:Nat):∃ s,s*s≤n∧n<(s+1)*(s+1):=by
 induction n with
 | zero=>exact ⟨0,by decide,by decide⟩
 | succ n ih =>
  obtain⟨s,h1,h2⟩:=ih;by_cases h:n+1<(s+1)*(s+1)
  ·exact ⟨s,by omega,h⟩
  refine ⟨s+1,by omega,?_⟩;have:(s+1+1)*(s+1+1)=(s+1)*(s+1)+2*s+3:=by grind
  omega
noncomputable def isq (n:Nat):Nat:=(yib n).choose
theorem yfL (n:Nat):isq n*isq n≤n:=(yib n).choose_spec.1
theorem ygO (n:Nat):n<(isq n+1)*(isq n+1):=(yib n).choose_spec.2
theorem yjz {n s:Nat} (h1:s*s≤n) (h2:n<(s+1)*(s+1)):s=isq n:=by
 have a1:=yfL n;have a2:=ygO n;refine Nat.le_antisymm (Nat.le_of_not_lt fun h=>?_) (Nat.le_of_not_lt fun h=>?_)
 ·have:=Nat.mul_le_mul h h
  simp only [Nat.succ_eq_add_one] at this;omega
 have:=Nat.mul_le_mul h h;simp only [Nat.succ_eq_add_one] at this;omega
theorem yhJ {n x:Nat} (hx:isq n≤x) (hx0:0<x):isq n≤(x+n / x) / 2∧((x+n / x) / 2<x∨x=isq n):=by
 refine ⟨newton_ge hx0 (yfL n),?_⟩;rcases Nat.eq_or_lt_of_le hx with h|h
 ·exact .inr h.symm
 exact .inl (newton_lt (ygO n) h)
theorem isq_pos {n:Nat} (h:0<n):0<isq n:=Nat.pos_of_ne_zero fun h0=>by
 have:=ygO n;rw [h0] at this;omega
theorem isq_pow {n b m:Nat} (hb:n<2 ^ b) (hm:b≤2*m):isq n<2 ^ m:=Nat.lt_of_not_le fun h=>by
 have h1:=Nat.mul_le_mul h h;have h2:=yfL n;have h3:2 ^ m*2 ^ m=2 ^ (m+m):=(Nat.pow_add 2 m m).symm;have h4:2 ^ b≤2 ^ (m+m):=Nat.pow_le_pow_right (by decide) (by omega);omega
theorem yej (n:Nat):isq n≤n:=by
 have h:=yfL n;rcases Nat.eq_zero_or_pos (isq n) with h0|h0
 ·omega
 exact Nat.le_trans (Nat.le_mul_of_pos_left _ h0) h
section
open Go.RowKit Go.Lib
theorem conv1 {u:World} {g pb:Nat} (h:u.heap[g]? = some (.cells #[.int .u8 (pb:Int)] 5)):(convert 188 9 (.slice (some ⟨g,0,none⟩) 1 1)).run Tryz.prog u = .ok (.string (strOfNums [(pb:Int)])) u :=
 run_convert_bytes_arg (P:=Tryz.prog) u 188 5 Tryz.underlying188 Tryz.underlying5 g 0 1 1 [(pb:Int)] rfl (fun i hi=>by
  obtain rfl:i=0:=by omega
  rw [yaa h]
  rfl) 9 Tryz.underlying9
def strOf:Value→ByteArray
 | .string s=>s
 | _=>⟨#[]⟩
theorem mag_le {X M c r:Nat} (hX:X≤2 ^ M) (hM:M=r+8*c) (hr:r<8):(magS X).size≤c+1:=by
 rw [yaO];subst hM;have h1:2 ^ r<2 ^ 8:=Nat.pow_lt_pow_right (by decide) hr;have h2:2 ^ (r+8*c)=2 ^ r*256 ^ c:=by rw [Nat.pow_add,show (256:Nat)=2 ^ 8 from rfl,← Nat.pow_mul]
 have h3:256 ^ (c+1)=256*256 ^ c:=by rw [Nat.pow_succ,Nat.mul_comm]
 have h4:2 ^ r*256 ^ c<256*256 ^ c:=Nat.mul_lt_mul_of_pos_right h1 (Nat.pow_pos (by decide));omega
theorem ydK {X Y k:Nat} (h:X≤Y) (hY:(magS Y).size≤k):(magS X).size≤k:=(yaO _ _).2 (Nat.lt_of_le_of_lt h ((yaO _ _).1 hY))
theorem mag_sum {X Y k:Nat} (hX:(magS X).size≤k) (hY:(magS Y).size≤k):(magS (X+Y)).size≤k+1:=by
 rw [yaO] at *;have:256 ^ (k+1)=256*256 ^ k:=by rw [Nat.pow_succ,Nat.mul_comm]
 omega
theorem wrap_pow:∀ r:Fin 8,IntKind.u8.wrap ((2:Int) ^ r.val)=((2 ^ r.val:Nat):Int):=by decide
theorem bit8:∀ n:Fin 256,n.val<2 ^ (Lib.bitLen n.val):=by decide +kernel
theorem bit8le:∀ n:Fin 256,Lib.bitLen n.val≤8:=by decide +kernel
theorem yhc (c:Nat):natL (repeatL [0] c)=0:=by
 induction c with
 | zero=>rfl
 | succ c ih =>
  show natL ([0]++repeatL [0] c)=0
  rw [ydt,ih];show natL [0]*_+0=0
  have:natL [0]=0:=rfl;rw [this,Nat.zero_mul]
theorem pow_bytes (r c:Nat) (hr:r<8):(⟨(#[UInt8.ofNat (2 ^ r)]++(repeatL [0] c).toArray)⟩:ByteArray)=magS (2 ^ (r+8*c)):=by
 have hl:(⟨(#[UInt8.ofNat (2 ^ r)]++(repeatL [0] c).toArray)⟩:ByteArray).data.toList=UInt8.ofNat (2 ^ r) :: repeatL [0] c:=by simp
 have hb:(UInt8.ofNat (2 ^ r)).toNat=2 ^ r:=by
  have:2 ^ r<2 ^ 8:=Nat.pow_lt_pow_right (by decide) hr;rw [UInt8.toNat_ofNat'];exact Nat.mod_eq_of_lt this
 have hc:CanS (⟨(#[UInt8.ofNat (2 ^ r)]++(repeatL [0] c).toArray)⟩:ByteArray):=by
  unfold CanS;rw [hl];intro b hb2;simp only [List.head?_cons,Option.some.injEq] at hb2;subst hb2;intro h0;have:=congrArg UInt8.toNat h0;rw [hb] at this;have h2:0<2 ^ r:=Nat.pow_pos (by decide);have h3:(0:UInt8).toNat=0:=rfl;omega
 rw [← ycc _ hc];congr 1
 unfold natB;rw [hl,ybj,hb,yhc,repeatL_length,Nat.add_zero];show 2 ^ r*256 ^ (c*1)=_
 rw [Nat.mul_one,Nat.pow_add,show (256:Nat)=2 ^ 8 from rfl,← Nat.pow_mul]
theorem pow_app (r c pb M:Nat) (hr:r<8) (hp:2 ^ r=pb) (hM:M=r+8*c):strOfNums [(pb:Int)]++⟨(repeatL [0] c).toArray⟩=magS (2 ^ M):=by
 subst hp hM;rw [← pow_bytes r c hr];apply ByteArray.ext;rw [ByteArray.data_append];unfold strOfNums;simp only [List.map_cons,List.map_nil,Int.toNat_natCast]
theorem top_lt (s:ByteArray) (h:0<s.size):natB s<2 ^ (8*(s.size-1)+Lib.bitLen (s[0]'h).toNat):=by
 obtain⟨⟨l⟩⟩:=s;cases l with
 | nil=>exact absurd h (by decide)
 | cons a l =>
  have e:natB ⟨⟨a :: l⟩⟩=a.toNat * 256 ^ l.length+natL l:=ybj a l;have h1:=ycO l;have h2:=bit8 ⟨a.toNat,UInt8.toNat_lt a⟩;have e2:((⟨⟨a :: l⟩⟩:ByteArray)[0]'h)=a:=rfl;have e3:(⟨⟨a :: l⟩⟩:ByteArray).size=l.length+1:=rfl;rw [e,e2,e3,Nat.add_sub_cancel,Nat.pow_add,Nat.pow_mul,show (2:Nat) ^ 8=256 from rfl]
  dsimp only at h2;have h3:(a.toNat + 1)*256 ^ l.length≤2 ^ Lib.bitLen a.toNat * 256 ^ l.length:=Nat.mul_le_mul_right _ h2;have h4:(a.toNat + 1)*256 ^ l.length=a.toNat * 256 ^ l.length+256 ^ l.length:=by rw [Nat.add_mul,Nat.one_mul]
  rw [Nat.mul_comm (256 ^ l.length)];omega
theorem yhg (w:World) (s:ByteArray) (h:0<s.size):(Instr.index 9 (.string s) (.int .i64 0)).run Tryz.prog w = .ok (.int .u8 ((s[0]'h).toNat:Nat)) w:=by
 rw [run_index_string (P:=Tryz.prog) w 9 s .i64 _ Tryz.underlying9,dif_pos ⟨by omega,by omega⟩];rfl
theorem root_p (n:Nat) (hs:(magS n).size≤1000000000) (w:World) :
  Calls Tryz.prog 215 #[.string (magS n)] w fun e w'=>e = .returned (.string (magS (isq n)))∧Below w.heap.size w w':=by
 rcases Nat.eq_zero_or_pos n with h0|hpos
 ·subst h0
  have hz:isq 0=0:=(yjz (s:=0) (by decide) (by decide)).symm;rw [hz,magS_zero];go_enter Tryz.func215,Tryz.ntmps215
  go_wp2_with fail;go_ret
  exact ⟨rfl,Below.refl _ _⟩
 have hsz:0<(magS n).size:=Nat.pos_of_ne_zero fun h=>by
  have:=(yaO n 0).1 (by omega);omega
 have htop:=top_lt (magS n) hsz;rw [yaw] at htop;have hne:magS n≠⟨#[]⟩:=fun h=>by rw [h] at hsz;exact absurd hsz (by decide)
 have HD:Hid (∀ X:Nat,0<X→(magS X).size≤1000000001→∀ w,Calls Tryz.prog 207 #[.string (magS n),.string (magS X)] w fun e w'=>e = .returned (.tuple #[.string (magS (n / X)),.string (magS (n % X))])∧Keep [] w w'):=fun X hX hXs w=>by
  have:=div_c (magS n) (magS X) (by omega) (by omega) (ycb n) (ycb X) (by rw [yaw];exact hX) w;rw [yaw,yaw] at this;exact this
 have HA:Hid (∀ X Y:Nat,(magS X).size≤1000000001→(magS Y).size≤1000000001→∀ w,Calls Tryz.prog 186 #[.string (magS X),.string (magS Y)] w fun e w'=>e = .returned (.string (magS (X+Y)))∧Keep [] w w'):=fun X Y hX hY w=>by
  have:=add_c (magS X) (magS Y) (by omega) (by omega) w;rw [yaw,yaw] at this;exact this
 have HH:Hid (∀ X:Nat,(magS X).size≤1000000002→∀ w,Calls Tryz.prog 207 #[.string (magS X),.string ⟨#[2]⟩] w fun e w'=>e = .returned (.tuple #[.string (magS (X / 2)),.string (magS (X % 2))])∧Keep [] w w'):=fun X hX w=>by
  have h2:natB ⟨#[2]⟩=2:=rfl;have c2:CanS ⟨#[2]⟩:=by intro b hb;have:(some 2:Option UInt8)=some b:=hb;injection this with this;subst this;decide
  have:=div_c (magS X) ⟨#[2]⟩ (by omega) (by decide) (ycb X) c2 (by rw [h2];decide) w;rw [yaw,h2] at this;exact this
 have HC:Hid (∀ X Y:Nat,∀ w,Calls Tryz.prog 187 #[.string (magS X),.string (magS Y)] w fun e w'=>e = .returned (.int .i64 (Lib.compareInt X Y))∧Keep [] w w'):=fun X Y w=>by
  have:=yci (magS X) (magS Y) (ycb X) (ycb Y) w;rw [yaw,yaw] at this;exact this
 obtain⟨d,hd⟩:∃ d,((magS n)[0]'hsz).toNat=d:=⟨_,rfl⟩;have hd9:d<256:=by rw [← hd];exact UInt8.toNat_lt _
 have hix:=fun w=>yhg w (magS n) hsz;rw [hd] at htop hix;have HB:=jX (fun w=>Tryz.bits_Len8 (d:Int) w (by omega) (by omega));have hbl:=bit8le ⟨d,hd9⟩;dsimp only at hbl;rw [Int.toNat_natCast] at HB;obtain⟨bl,hbl2⟩:∃ bl,Lib.bitLen d=bl:=⟨_,rfl⟩;rw [hbl2] at HB hbl htop;have HT:=jX htop;have Hpos:=jX hpos;clear htop hbl2 hd hpos;obtain⟨L,hL⟩:∃ L,(magS n).size=L+1:=⟨(magS n).size-1,by omega⟩;rw [hL,Nat.add_sub_cancel] at HT;have hsub:((magS n).size:Int)-1=(L:Int):=by omega
 have hemp:(magS n).toList.isEmpty=false:=by
  rw [List.isEmpty_eq_false_iff];exact fun h=>hne (ycP (by rw [h,Go.Lib.toList_data]))
 have hL9:L≤1000000000:=by omega
 clear hL;have HQs:=jX (fun X=>ydK (Nat.div_le_self n X) (Nat.le_trans hs (by decide:1000000000≤1000000001)));generalize magS n=s at *;go_enter Tryz.func215,Tryz.ntmps215
 go_wp2_with fail;refine (HB.out _).mono ?_;rintro e w1 ⟨rfl,rfl⟩;dsimp only;clear HB;obtain⟨M,hM0⟩:∃ M,(8*L+bl+1) / 2=M:=⟨_,rfl⟩;obtain⟨r,hr0⟩:∃ r,M % 8=r:=⟨_,rfl⟩;obtain⟨c,hc0⟩:∃ c,M / 8=c:=⟨_,rfl⟩;have hM:(8*(L:Int)+(bl:Int)+1) / 2=(M:Int):=by omega
 have hr:(M:Int) % 8=(r:Int):=by omega
 have hc:(M:Int) / 8=(c:Int):=by omega
 have hr8:r<8:=by omega
 have HMx:=jX (show M=r+8*c by omega)
 have HM2:=jX (show 8*L+bl≤2*M by omega)
 have hc9:c≤1000000000:=by omega
 have hrt:(M:Int).tmod 8=(r:Int):=by rw [Int.tmod_eq_emod_of_nonneg (by omega)];exact hr
 have hct:(M:Int).tdiv 8=(c:Int):=by rw [Int.tdiv_eq_ediv_of_nonneg (by omega)];exact hc
 have hrn:((r:Int)).toNat=r:=by omega
 have hrm:min r 8=r:=by omega
 have hcw:IntKind.i64.wrap (c:Int)=(c:Int):=IntWalk.i64_in _ (by omega);have hwp:IntKind.u8.wrap ((2:Int) ^ r)=((2 ^ r:Nat):Int):=wrap_pow ⟨r,hr8⟩;obtain⟨pb,hpb⟩:∃ pb,2 ^ r=pb:=⟨_,rfl⟩;have Hpb:=jX hpb;rw [hpb] at hwp;clear hM0 hr0 hc0 hpb;go_upto_region 5 with (fail)
 have Hrep:=jX (fun w=>Tryz.strings_Repeat ⟨#[0]⟩ c w (by omega) (by rw [show (⟨#[0]⟩:ByteArray).size=1 from rfl];omega))
 have HPW:=jX (congrArg Value.string (pow_app r c pb M hr8 Hpb.out HMx.out))
 have HSZ:Hid (¬ 9223372036854775807<(strOfNums [(pb:Int)]).size+(⟨(repeatL [0] c).toArray⟩:ByteArray).size):=by
  have h1:(strOfNums [(pb:Int)]).size=1:=rfl
  have h2:(⟨(repeatL [0] c).toArray⟩:ByteArray).size=c:=by
   show (repeatL [0] c).toArray.size=c
   rw [List.size_toArray,repeatL_length,List.length_singleton,Nat.mul_one]
  refine jX ?_;rw [h1,h2];omega
 go_cut [3,4] (fun _ xv wx=>xv = .string (magS (2 ^ M))∧Below w1.heap.size w1 wx)
 case first =>
  have HBu:=jX ((Below.refl w1.heap.size w1).drew);refine yaj (S:=fun _=>True) 8 (by kernel_rfl) (by kernel_rfl) (fun _ _ d _ _ h=>by cases d<;>exact h) ?_;generalize World.drew w1=u at *;refine' jV (v:=_) 0 trivial (fun w _=>?ha0) (fun K hK=>?ka0)
  case ha0=>(go_simp;try rfl)
  go_simp;refine hK _ ?_;clear hK K;refine' jV (v:=_) 1 trivial (fun w _=>?hb1) (fun K hK=>?kb1)
  case hb1=>(go_simp;try rfl)
  go_simp;refine hK _ ?_;clear hK K;refine' jV (v:=_) 2 trivial (fun w _=>?hc2) (fun K hK=>?kc2)
  case hc2=>(go_simp;try rfl)
  go_simp;refine hK _ ?_;clear hK K;refine' jV (v:=_) 5 trivial (fun w _=>?hd5) (fun K hK=>?kd5)
  case hd5=>(go_simp;try rfl)
  go_simp;refine hK _ ?_;clear hK K;refine' jV (v:=_) 6 trivial (fun w _=>?he6) (fun K hK=>?ke6)
  case he6=>(go_simp;try rfl)
  go_simp;refine hK _ ?_;clear hK K;refine yap 3 7 (by kernel_rfl) (by decide) (by decide) (by rfl) (by rfl) (by rfl) (by rfl) (fun K hK=>?_) (fun K hK=>?_)
  ·skip
   obtain⟨v1,g,e1,e2,bg,hg,hgu,hk2⟩:=al1 u (.cells #[.int .u8 (pb:Int)] 5);go_simp;rw [← e1];clear e1 e2;have HBu:=jX (HBu.out.trans (Below.mono hk2.bz HBu.out.size));refine hK _ _ trivial ?_;clear hK K;refine yap 4 7 (by kernel_rfl) (by decide) (by decide) (by rfl) (by rfl) (by rfl) (by rfl) (fun K hK=>?_) (fun K hK=>?_)
   ·skip
    have hcv:=conv1 bg;go_simp;refine hK _ _ trivial ?_;clear hK K hcv;refine jO 7 (fun K hK=>?_);refine yae 228 #[.string ⟨#[0]⟩,.int .i64 (c:Int)] (by go_simp) ?_;refine (Hrep.out _).mono ?_;rintro e v2 ⟨rfl,hb1⟩;have HBu:=jX (HBu.out.trans (Below.mono hb1 HBu.out.size));refine ⟨_,rfl,?_⟩;refine hK _ _ trivial ?_;clear hK K;refine ⟨by kernel_rfl,?_⟩;simp only [List.drop_succ_cons,List.drop_zero];have HP2:=HPW.out;have hz:=HSZ.out;generalize strOfNums [(pb:Int)]=SA at *;generalize (⟨(repeatL [0] c).toArray⟩:ByteArray)=SB at *;have HP2:=jX HP2;go_wp2_with fail;go_meet
    exact ⟨rfl,HBu.out⟩
   skip
   refine yae 228 #[.string ⟨#[0]⟩,.int .i64 (c:Int)] (by go_simp) ?_;refine (Hrep.out _).mono ?_;rintro e v2 ⟨rfl,hb1⟩;have HBu:=jX (HBu.out.trans (Below.mono hb1 HBu.out.size));refine ⟨_,rfl,?_⟩;refine hK _ _ trivial ?_;clear hK K;have bg:=(hb1.block g hgu).trans bg;refine jO 4 (fun K hK=>?_);have hcv:=conv1 bg;go_simp;refine hK _ _ trivial ?_;clear hK K hcv;refine ⟨by kernel_rfl,?_⟩;simp only [List.drop_succ_cons,List.drop_zero];have HP2:=HPW.out;have hz:=HSZ.out;generalize strOfNums [(pb:Int)]=SA at *;generalize (⟨(repeatL [0] c).toArray⟩:ByteArray)=SB at *;have HP2:=jX HP2;go_wp2_with fail;go_meet
   exact ⟨rfl,HBu.out⟩
  skip
  refine yae 228 #[.string ⟨#[0]⟩,.int .i64 (c:Int)] (by go_simp) ?_;refine (Hrep.out _).mono ?_;rintro e v1 ⟨rfl,hb1⟩;have HBu:=jX (HBu.out.trans (Below.mono hb1 HBu.out.size));refine ⟨_,rfl,?_⟩;refine hK _ _ trivial ?_;clear hK K;refine jO 3 (fun K hK=>?_);obtain⟨v2,g,e1,e2,bg,hg,hgu,hk2⟩:=al1 v1 (.cells #[.int .u8 (pb:Int)] 5);go_simp;rw [← e1];clear e1 e2;have HBu:=jX (HBu.out.trans (Below.mono hk2.bz HBu.out.size));refine hK _ _ trivial ?_;clear hK K;refine jO 4 (fun K hK=>?_);have hcv:=conv1 bg;go_simp;refine hK _ _ trivial ?_;clear hK K hcv;refine ⟨by kernel_rfl,?_⟩;simp only [List.drop_succ_cons,List.drop_zero];have HP2:=HPW.out;have hz:=HSZ.out;generalize strOfNums [(pb:Int)]=SA at *;generalize (⟨(repeatL [0] c).toArray⟩:ByteArray)=SB at *;have HP2:=jX HP2;go_wp2_with fail;go_meet
  exact ⟨rfl,HBu.out⟩
 obtain⟨rfl,hbw⟩:=hcut;have HBw:=jX hbw;have HQ0:=jX (Nat.le_of_lt (isq_pow HT.out HM2.out));have HQp:=jX (isq_pos Hpos.out);have HXs:Hid (∀ X,X≤2 ^ M→(magS X).size≤1000000001):=fun X hX=>Nat.le_trans (mag_le hX HMx.out hr8) (by omega);clear hbw hs;go_wp2_with fail;go_loopw [4] (fun xv wr=>∃ X:Nat,isq n≤X∧X≤2 ^ M∧xv = .string (magS X)∧Keep [] wc wr) (fun xv _=>natB (strOf xv))
 case atStart=>exact ⟨2 ^ M,HQ0.out,Nat.le_refl _,rfl,Keep.refl _ _⟩
 case round =>
  obtain⟨X,hX,hXM,rfl,hk⟩:=hrel;have HX:=jX hX;have HXM:=jX hXM;have HK:=jX hk;have HX0:Hid (0<X):=Nat.lt_of_lt_of_le HQp.out hX;have HN:=jX (yhJ hX HX0.out);have HSx:=jX (HXs.out X hXM);have HSq:=jX (HQs.out X);clear hX hXM hk;go_wp2_with fail;refine (HD.out X HX0.out HSx.out _).mono ?_;rintro e w2 ⟨rfl,hk2⟩;dsimp only;have HK:=jX (HK.out.tz hk2);clear hk2;go_wp2_with fail;refine (HA.out X (n / X) HSx.out HSq.out _).mono ?_;rintro e w3 ⟨rfl,hk3⟩;dsimp only;have HK:=jX (HK.out.tz hk3);clear hk3;go_wp2_with fail;refine (HH.out (X+n / X) (mag_sum HSx.out HSq.out) _).mono ?_;rintro e w4 ⟨rfl,hk4⟩;dsimp only;have HK:=jX (HK.out.tz hk4);clear hk4;generalize n / X=q at *;generalize (X+q) / 2=Y at *;go_wp2_with fail;refine (HC.out Y X _).mono ?_;rintro e w5 ⟨rfl,hk5⟩;dsimp only;have HK:=jX (HK.out.tz hk5);clear hk5
  have hcmp:(0≤Lib.compareInt (Y:Int) (X:Int))↔X≤Y:=by
   unfold Lib.compareInt;split
   ·constructor<;>intro h<;>omega
   split
   ·constructor<;>intro h<;>omega
   constructor<;>intro h<;>omega
  generalize Lib.compareInt (Y:Int) (X:Int)=z at *;have Hcmp:=jX hcmp;clear hcmp;by_cases hz:0≤z
  ·have hXY:=Hcmp.out.1 hz
   have hfin:X=isq n:=by
    rcases HN.out.2 with h|h
    ·omega
    exact h
   have HF:=jX hfin;have HBk:=jX (HBw.out.trans (Below.mono HK.out.bz HBw.out.size));clear hfin hXY;go_wp2_with fail;go_ret
   exact ⟨by rw [← HF.out];rfl,HBk.out⟩
  have hYX:Y<X:=Nat.lt_of_not_le fun h=>hz (Hcmp.out.2 h);have HYX:=jX hYX;clear hYX;go_wp2_with fail;go_roundw
  case rel=>exact ⟨Y,HN.out.1,by have:=HYX.out;have:=HXM.out;omega,rfl,HK.out⟩
  case measure=>show natB (magS Y)<natB (magS X);rw [yaw,yaw];exact HYX.out
end
end Go.Proofs.YtejegogbhpmgfaaGreatDoor
