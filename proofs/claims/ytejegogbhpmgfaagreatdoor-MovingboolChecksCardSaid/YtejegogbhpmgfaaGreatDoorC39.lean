/- Parts of a proof about this translation: Ml, Mm, Vm, Vn, Vo. -/
import Derived.IntWalk
import Derived.Test.YtejegogbhpmgfaaGreatDoorC38
import Derived.Test.YtejegogbhpmgfaaGreatDoorC36
import Derived.Test.YtejegogbhpmgfaaGreatDoorC32
import Derived.Test.YtejegogbhpmgfaaGreatDoorC35
import Derived.Test.YtejegogbhpmgfaaGreatDoorC28
import Derived.Test.YtejegogbhpmgfaaGreatDoorC33
import Derived.Test.YtejegogbhpmgfaaGreatDoorC25
import Derived.Test.YtejegogbhpmgfaaGreatDoorC31
import Derived.Test.YtejegogbhpmgfaaGreatDoorC20
import Derived.Test.YtejegogbhpmgfaaGreatDoorC34
set_option linter.unusedVariables false
set_option linter.unusedSimpArgs false
set_option maxRecDepth 100000
set_option maxHeartbeats 8000000
namespace Go.Proofs.YtejegogbhpmgfaaGreatDoor
open Go.RowKit
section
open Classical
section
variable {S:List K} {w0 w w' W V:World} {L M:List (Value × List (Iv K))}
theorem MP.re (h:MP S V w L) (hk:Keep [] W w):MP S W w L:=⟨⟨hk,h.mi.2⟩,h.per,h.few⟩
theorem MP.put (h:MP S V w L) {g:Nat} {cs:Array Value} {t:TypeId} (hb:w.heap[g]? = some (.cells cs t)) (hs:cs.size<20) (hk:Keep [g] w w') (hg:V.heap.size≤g):MP S V w' L :=
 ⟨⟨h.keep.trans hk (by simp;exact hg),fun p hp=>(h.mi.2 p hp).laterBox hb hs hk⟩,h.per,h.few⟩
theorem al_bool (ev:Operand→Value) (w:World) (o:Oper) (ho:o.op = .alloc 29):(execOp ev o).run Tryz.prog w = .ok (.value (.pointer (some ⟨w.heap.size,0,none⟩))) (w.alloc (.cells #[.slice none 0 0,.slice none 0 0] 29)):=by
 have e:(zeroValue 29).run Tryz.prog w = .ok (.agg #[.slice none 0 0,.slice none 0 0]) w:=by go_simp
 unfold execOp
 simp only [ho]
 unfold Instr.alloc
 simp only [Sem.run_bind,e,Result.andThen_ok]
 rfl
theorem b_size:(Tryz.prog.info? 29).map (·.size)=some 2:=by
 kernel_rfl
end
end
section
open Classical
theorem b_one (a b:Option Addr) (m n k l:Nat):(#[.slice a m k,.slice b n l]:Array Value).all (·.oneCell')=true:=by simp [Value.oneCell']
theorem st2b {w:World} {g:Nat} {a b y:Value} {t:TypeId} (h:w.heap[g]? = some (.cells #[a,b] t (0,0))) :
  ∃ W,W=w.setCell ⟨g,1,none⟩ y∧W.heap[g]? = some (.cells #[a,y] t (0,0))∧Keep [g] w W :=
 ⟨_,rfl,set_same h 1 y,Keep.setCell [g] w g 1 y (by simp)⟩
section
variable {S:List K} {w0 w w' W:World} {L M:List (Value × List (Iv K))} {D T E U P:List (Iv K)} {da ta ea ua pa:Option Addr} {dc tc ec uc pc:Nat}
end
end
section
open Classical
theorem compactS_two (x y:K) (r:List K):compactS (x :: y :: r)=if x=y then compactS (y :: r) else x :: compactS (y :: r):=by
 rw [compactS]
 by_cases h:x=y
 ·rw [if_pos h,if_pos h]
 rw [if_neg h,if_neg h]
theorem compactS_snoc (m:List K) (x y:K):compactS (m++[x,y])=if x=y then compactS (m++[x]) else compactS (m++[x])++[y]:=by
 induction m with
 | nil =>
  show compactS [x,y]=if x=y then compactS [x] else compactS [x]++[y]
  unfold compactS
  by_cases h:x=y
  ·subst h;rw [if_pos rfl,if_pos rfl];rfl
  rw [if_neg h,if_neg h];rfl
 | cons a m ih =>
  cases m with
  | nil =>
   have ih:compactS [x,y]=if x=y then compactS [x] else compactS [x]++[y]:=ih
   show compactS (a :: x :: [y])=if x=y then compactS (a :: x :: []) else compactS (a :: x :: [])++[y]
   have e1:compactS (a :: x :: [y])=if a=x then compactS (x :: [y]) else a :: compactS (x :: [y]):=compactS_two _ _ _
   have e2:compactS (a :: x :: [])=if a=x then compactS (x :: []) else a :: compactS (x :: []):=compactS_two _ _ _
   rw [e1,e2,ih]
   by_cases h:a=x<;>by_cases h2:x=y<;>simp [h,h2]
  | cons b m =>
   have e1:compactS (a :: b :: m++[x,y])=if a=b then compactS (b :: m++[x,y]) else a :: compactS (b :: m++[x,y]):=compactS_two _ _ _
   have e2:compactS (a :: b :: m++[x])=if a=b then compactS (b :: m++[x]) else a :: compactS (b :: m++[x]):=compactS_two _ _ _
   rw [e1,e2,ih]
   by_cases h:a=b<;>by_cases h2:x=y<;>simp [h,h2]
theorem compactS_take (l:List K) (j:Nat) (h:j+1<l.length):compactS (l.take (j+2))=if l[j+1]=l[j] then compactS (l.take (j+1)) else compactS (l.take (j+1))++[l[j+1]]:=by
 have e1:l.take (j+1)=l.take j++[l[j]]:=List.take_succ_eq_append_getElem (by omega)
 have e2:l.take (j+2)=l.take j++[l[j],l[j+1]]:=by
  rw [List.take_succ_eq_append_getElem h,e1,List.append_assoc];rfl
 rw [e2,e1,compactS_snoc]
 by_cases h:l[j]=l[j+1]
 ·rw [if_pos h,if_pos h.symm]
 rw [if_neg h,if_neg (fun e=>h e.symm)]
theorem compactS_short (l:List K) (h:l.length<2):compactS l=l:=by
 match l,h with
 | [],_=>rfl
 | [x],_=>rfl
theorem kC_fac (x:K):(kC x).toList=kcells x.1∧(kC x).size=9∧(kC x).all (·.oneCell')=true:=⟨rfl,rfl,all_oneCell_toArray (kcells_one x.1)⟩
theorem eqK_g:Tryz.prog.eqGuardType Tryz.prog.depth 36=false:=by kernel_rfl
theorem flatK_mid (a b:List K) (s t:K):setL ((a++s :: b).flatMap fun x=>kcells x.1) (a.length*9) (kcells t.1)=(a++t :: b).flatMap fun x=>kcells x.1:=by
 have ha:(a.flatMap fun x=>kcells x.1).length=a.length*9:=flat_len (fun x:K=>kcells x.1) (fun x=>kcells_len x.1) a
 rw [List.flatMap_append,List.flatMap_append,List.flatMap_cons,List.flatMap_cons]
 generalize (a.flatMap fun x=>kcells x.1)=F at *
 generalize (b.flatMap fun x=>kcells x.1)=G at *
 rw [← ha]
 unfold setL
 rw [List.take_left]
 have e:(F++(kcells s.1++G)).drop (F.length+(kcells t.1).length)=G:=by
  rw [← List.drop_drop,List.drop_left,kcells_len,← kcells_len s.1,List.drop_left]
 rw [e,List.append_assoc]
theorem OK_.len {w0 w:World} {ov:Option Addr} {n c:Nat} {l:List K} (h:OK_ w0 w (.slice ov n c) l):n=l.length:=by
 obtain⟨po,pc,e⟩:=h.form
 injection e
theorem OK_.setm {w0 w:World} {g n c:Nat} {a b:List K} {s:K} (t:K) (h:OK_ w0 w (.slice (some ⟨g,0,none⟩) n c) (a++s :: b)) :
  OK_ w0 (w.setCells g (a.length*9) (kcells t.1)) (.slice (some ⟨g,0,none⟩) n c) (a++t :: b):=by
 have hr:=h.row
 have hlen:(a++s :: b).length=(a++t :: b).length:=by simp
 have hbig:a.length+1≤(a++s :: b).length:=by simp
 have hn:=OK_.len h
 subst hn
 rw [hlen] at *
 obtain⟨h1,k1⟩:=own_setCells hr (o:=a.length*9) (vs:=kcells t.1) (by rw [kcells_len];omega)
 rw [flatK_mid a b s t] at h1
 exact ⟨h1,h.base,h.keep.trans k1 (by simp;exact h.base g rfl)⟩
theorem OK_.there {w0 w:World} {g n c:Nat} {l:List K} (h:OK_ w0 w (.slice (some ⟨g,0,none⟩) n c) l) (o m:Nat) (hm:o+m≤n*9):w.there g o m:=by
 have hr:=h.row
 have hn:=OK_.len h
 rw [← hn] at hr
 exact own_there hr hm
theorem OK_.cut {w0 w:World} {g n c:Nat} {a b:List K} (h:OK_ w0 w (.slice (some ⟨g,0,none⟩) n c) (a++b)) (vs:List Value) (hv:vs.length=b.length*9) :
  KR (w.setCells g (a.length*9) vs) (.slice (some ⟨g,0,none⟩) a.length c) a∧Keep [] w0 (w.setCells g (a.length*9) vs):=by
 have hr:=h.row
 have hn:=OK_.len h
 subst hn
 have hl:(a++b).length=a.length+b.length:=List.length_append
 obtain⟨h1,k1⟩:=own_setCells hr (o:=a.length*9) (vs:=vs) (by omega)
 have hc:a.length≤c:=by
  rcases hr.2 with ⟨hv,_⟩|⟨g',cap,cur,hv,_,hg,hnc,_⟩
  ·cases hv
  injection hv with _ _ e3
  omega
 have hx:=World.ownsRow.cells (g:=g) h1 rfl
 have hg:g<(w.setCells g (a.length*9) vs).heap.size:=by
  rcases h1.2 with ⟨hv,_⟩|⟨g',cap,cur,hv,_,hg,_⟩
  ·cases hv
  injection hv with e1
  injection e1 with e1
  injection e1 with e1
  subst e1
  exact lt_of_heap hg
 refine ⟨.inr ⟨g,0,c,rfl,hc,hg,fun i v hi=>?_⟩,h.keep.trans k1 (by simp;exact h.base g rfl)⟩
 have hil:i<a.length*9:=by
  have:=(List.getElem?_eq_some_iff.1 hi).1
  rwa [flat_len (fun x:K=>kcells x.1) (fun x=>kcells_len x.1)] at this
 have:=hx i v (by
  have hfl:(a.flatMap fun x=>kcells x.1).length=a.length*9:=flat_len (fun x:K=>kcells x.1) (fun x=>kcells_len x.1) a
  rw [List.flatMap_append]
  generalize (a.flatMap fun x=>kcells x.1)=F at *
  unfold setL
  rw [List.append_assoc,List.getElem?_append_left (by rw [List.length_take,List.length_append];omega),List.getElem?_take_of_lt hil,List.getElem?_append_left (by omega)]
  exact hi)
 rwa [Addr.add_lit] at this
def rZ:Array Value:=#[.bool false,.string ⟨#[]⟩,.bool false,.string ⟨#[]⟩,.bool false,.string ⟨#[]⟩,.bool false,.string ⟨#[]⟩,.bool false]
theorem rZ_zero (w:World):∃ z,(zeroValue 36).run Tryz.prog w = .ok z w∧z.cells=rZ:=by
 obtain⟨i,z,hi,hz,hs,hb,hzc⟩:=real_info
 refine ⟨z,?_,hzc⟩
 unfold zeroValue typeInfo
 simp [hi,hz]
theorem zeros_len (n:Nat):(Builtin.zeroCells rZ n).toList.length=n*9:=by
 unfold Builtin.zeroCells
 simp [rZ]
theorem zeros_one (n:Nat):∀ v∈(Builtin.zeroCells rZ n).toList,v.oneCell'=true:=by
 intro v hv
 unfold Builtin.zeroCells at hv
 simp only [Array.toList_map,List.mem_map,Array.toList_range,List.mem_range] at hv
 obtain⟨i,hi,rfl⟩:=hv
 have h9:rZ.size=9:=rfl
 have hm:i % rZ.size<9:=by rw [h9];omega
 generalize i % rZ.size=j at *
 rcases j with _|_|_|_|_|_|_|_|_|j
 all_goals first|rfl|omega
theorem clear_k {ty:TypeId} (w:World) (b o n c:Nat) (hn:0<n) (ht:w.there b o (n*9)) :
  (Builtin.clear_ #[56] ty #[.slice (some ⟨b,o,none⟩) n c]).run Tryz.prog w = .ok (.tuple #[]) (w.setCells b o (Builtin.zeroCells rZ n).toList):=by
 have hz:∀ w,∃ z,(zeroValue 36).run Tryz.prog w = .ok z w∧z.cells=rZ:=rZ_zero
 have hst:=run_storeCells_cells (P:=Tryz.prog) b o (Builtin.zeroCells rZ n).toList 0 w (fun j hj=>(ht j (by rw [zeros_len] at hj;exact hj)).1) (fun j hj=>(ht j (by rw [zeros_len] at hj;exact hj)).2) (zeros_one n)
 simp only [Nat.add_zero] at hst
 obtain⟨z,hz1,hz2⟩:=hz w
 obtain⟨m,rfl⟩:∃ m,n=m+1:=⟨n-1,by omega⟩
 simp [Builtin.clear_,run_underlying Tryz.underlying56,hz1,hz2,hst]
theorem exec_clear {P:Program} {o:Oper} {ev:Operand→Value} {w w':World} (x:Operand) (t:TypeId) (vx:Value) (ho:o.op = .call { callee:=.builtin .clear,args:=#[x],argTypes:=#[t] }) (hx:ev x=vx)
  (h:(Builtin.clear_ #[t] o.type #[vx]).run P w = .ok (.tuple #[]) w'):(execOp ev o).run P w = .ok (.value (.tuple #[])) w':=by
 unfold execOp
 simp only [ho,resolve,invoke,builtin,Sem.run_bind,Sem.run_pure,Result.andThen_ok,List.map_toArray,List.map_cons,List.map_nil,hx,h]
end
section
open Classical
theorem okAt {w0 w:World} {g n c:Nat} {l:List K} (h:OK_ w0 w (.slice (some ⟨g,0,none⟩) n c) l) (i:Nat) (hi:i<l.length):KAt w g (i*9) l[i].1∧g<w.heap.size:=by
 obtain⟨g',o',e,hg',hat⟩:=RowE.elem (fun x:K=>kcells_len x.1) h.read i hi
 injection e with e
 injection e with e1 e2
 subst e1 e2
 refine ⟨fun j v hv=>?_,hg'⟩
 have:=hat j v hv
 rwa [Nat.zero_add] at this
theorem compactS_tk (l:List K) (j k e:Nat) (hj:k=j+1) (he:e=k+1) (hk:k<l.length) (hjl:j<l.length):compactS (l.take e)=if l[k]=l[j] then compactS (l.take k) else compactS (l.take k)++[l[k]]:=by
 subst hj he
 exact compactS_take l j hk
theorem drop_get (C l:List K) (m e:Nat) (hC:C.length=m) (hm:m≤e) (he:e<l.length) (h:e<(C++l.drop m).length):(C++l.drop m)[e]=l[e]:=by
 subst hC
 rw [List.getElem_append_right hm,List.getElem_drop]
 congr 1
 omega
theorem compact_c (l:List K) (w0 w:World) (sv:Value) (h:OK_ w0 w sv l) (h9:l.length≤1000000000) :
  Calls Tryz.prog 78 #[sv] w fun e w'=>∃ v,e = .returned v∧KR w' v (compactS l)∧Keep [] w0 w':=by
 have HO:=jX h
 by_cases hsh:l.length<2
 ·obtain⟨oo,oc,rfl⟩:=h.form
  have HF:=jX (compactS_short l hsh)
  clear h
  go_enter Tryz.func78,Tryz.ntmps78
  go_wp2_with fail
  go_ret
  exact ⟨_,rfl,by rw [HF.out];exact HO.out.read,HO.out.keep⟩
 rcases h.row.2 with ⟨hv,hn⟩|⟨g,c,cur,rfl,_,hg,hnc,hcm,hr1,hr2⟩
 ·exfalso;omega
 clear h hg hr1 hr2 hcm
 go_enter Tryz.func78,Tryz.ntmps78
 go_wp2_with fail
 go_loopw [3] (fun cv wr=>∃ k:Nat,1≤k∧k≤l.length∧cv = .int .i64 (k:Int)∧compactS (l.take k)=l.take k∧Keep [] w wr) (fun cv _=>l.length-(intOf cv).toNat)
 case atStart=>exact ⟨1,Nat.le_refl _,by omega,rfl,compactS_short _ (by rw [List.length_take];omega),Keep.refl _ _⟩
 case round =>
  obtain⟨k,hk1,hk,rfl,hcp,hkp⟩:=hrel
  obtain⟨j,hj⟩:∃ j,k=j+1:=⟨k-1,by omega⟩
  have Hj:=jX hj
  have HC:=jX hcp
  have HK:=jX hkp
  have hsub:(k:Int)-1=(j:Int):=by omega
  have hjl:j<l.length:=by omega
  clear hcp hkp
  by_cases hlt:k<l.length
  ·have hjc:((j:Nat):Int)<(l.length:Int):=by omega
   have h1:=okAt (HO.out.later HK.out) k hlt
   have h2:=okAt (HO.out.later HK.out) j hjl
   have Hst:=jX (compactS_tk l j k (k+1) hj rfl hlt hjl)
   have Hkx:Hid (l.take (k+1)=l.take k++[l[k]]):=List.take_succ_eq_append_getElem hlt
   clear hj
   obtain⟨p,hp⟩:∃ p,k*9=p:=⟨_,rfl⟩
   obtain⟨q,hq⟩:∃ q,j*9=q:=⟨_,rfl⟩
   rw [hp] at h1
   rw [hq] at h2
   have HLx:=jX (KAt.ld h1.1 h1.2)
   have HLy:=jX (KAt.ld h2.1 h2.2)
   generalize l[k]=x at *
   generalize l[j]=y at *
   have HN:=jX (eqR_run x y)
   clear h1 h2
   unfold kv at *
   generalize kC x=X at *
   generalize kC y=Y at *
   by_cases hxy:x=y
   ·rw [decide_eq_true hxy] at HN
    have Hc:=jX (Hst.out.trans (if_pos hxy))
    clear Hst hxy
    go_wp2_with fail
    refine wp_region_keep (by kernel_rfl) (by kernel_rfl) ?_
    repeat (first
     | go_big_quiet_skip
     | (go_big_quiet_want;first
      | (refine quiet_load _ _ _ (.agg X) rfl rfl (by rintro _ ⟨m,rfl⟩;exact HLx.out m) ?_;go_simp;go_big_quiet_on)|(refine quiet_load _ _ _ (.agg Y) rfl rfl (by rintro _ ⟨m,rfl⟩;exact HLy.out m) ?_;go_simp;go_big_quiet_on)|(refine quiet_bin _ _ _ _ _ _ _ (_) rfl rfl rfl eqK_g (by intro w;exact HN.out w) ?_;go_simp;go_big_quiet_on)
      | (go_big_quiet_op;first|go_big_quiet_on|go_big_quiet_call (first
       | fail))))
    refine wpQuiet_nil ?_
    rintro w1 ⟨⟨_,hk_w1⟩,rfl⟩
    clear HLx HLy HN
    have Hk1:=jX hk_w1
    clear hk_w1
    have HO1:=jX ((HO.out.later HK.out).later Hk1.out)
    have Hc1:=jX (Hc.out.trans HC.out)
    have Htl:=jX (show (l.take k).length=k by rw [List.length_take];omega)
    clear Hc HC Hkx HK Hk1 hjc hsub hjl Hj hq
    have Hp:=jX hp
    obtain⟨nn,hnn⟩:∃ nn,l.length-k=nn:=⟨_,rfl⟩
    have Hnk:=jX (show k+nn=l.length by omega)
    have hnp:1<c:=by omega
    go_wp2_with fail
    go_loopw [3,5] (fun mv iv_ wv=>∃ (m i:Nat),mv = .int .i64 (m:Int)∧iv_ = .int .i64 (i:Int)∧1≤i∧k+i≤l.length∧m+1≤k+i∧(compactS (l.take (k+i))).length=m∧OK_ w0 wv (.slice (some ⟨g,0,none⟩) l.length c) (compactS (l.take (k+i))++l.drop m)) (fun _ iv_ _=>l.length-(intOf iv_).toNat)
    case atStart=>exact ⟨k,1,rfl,rfl,Nat.le_refl _,by omega,by omega,by rw [Hc1.out,Htl.out],by rw [Hc1.out,List.take_append_drop];exact HO1.out⟩
    case round =>
     obtain⟨m,i,rfl,rfl,hi1,hil,hmi,hcl,hov⟩:=hrel
     rename World=>wv
     have Hcl:=jX hcl
     have HOv:=jX hov
     have hlen:(compactS (l.take (k+i))++l.drop m).length=l.length:=(OK_.len hov).symm
     have hml:m<l.length:=by have:=Hnk.out;omega
     clear hov
     by_cases hlt2:i<nn
     ·obtain⟨i',hi'⟩:∃ i',i=i'+1:=⟨i-1,by omega⟩
      have hsub2:(i:Int)-1=(i':Int):=by omega
      have hltc:(i':Int)<(nn:Int):=by omega
      have hki:k+i<l.length:=by have:=Hnk.out;omega
      have hki':k+i'<l.length:=by omega
      have h1:=okAt HOv.out (k+i) (by omega)
      have h2:=okAt HOv.out (k+i') (by omega)
      rw [drop_get _ l m (k+i) hcl (by omega) hki] at h1
      rw [drop_get _ l m (k+i') hcl (by omega) hki'] at h2
      have Hst:=jX (compactS_tk l (k+i') (k+i) (k+(i+1)) (by omega) (by omega) hki hki')
      have Hdm:Hid (l.drop m=l[m] :: l.drop (m+1)):=List.drop_eq_getElem_cons hml
      have Hi':=jX hi'
      clear hi' hlen hcl
      generalize l[m]=y0 at *
      generalize l[k+i]=x at *
      generalize l[k+i']=y at *
      obtain⟨r,hr⟩:∃ r,p+i*9=r:=⟨_,rfl⟩
      obtain⟨s,hs⟩:∃ s,p+i'*9=s:=⟨_,rfl⟩
      obtain⟨mm,hmm⟩:∃ mm,m*9=mm:=⟨_,rfl⟩
      have Hmm:=jX hmm
      rw [show (k+i)*9=r by rw [Nat.add_mul,Hp.out];exact hr] at h1
      rw [show (k+i')*9=s by rw [Nat.add_mul,Hp.out];exact hs] at h2
      have HLx:=jX (KAt.ld h1.1 h1.2)
      have HLy:=jX (KAt.ld h2.1 h2.2)
      have HN:=jX (neqR_run x y)
      have HLd:Hid (∀ u,Keep [] wv u→(loadVar 36 ⟨g,r,none⟩).run Tryz.prog u = .ok (.agg (kC x)) u):=fun u hu=>load_real u g r x.1 (h1.1.keep (hu.block g h1.2 (by simp)))
      have HX:=jX (kC_fac x)
      clear h1 h2
      unfold kv at *
      generalize kC x=X at *
      generalize kC y=Y at *
      by_cases hxy:x=y
      ·rw [decide_eq_true hxy] at HN
       have Hc:=jX (Hst.out.trans (if_pos hxy))
       clear Hst hxy HLd HX
       go_wp2_with fail
       refine wp_region_keep (by kernel_rfl) (by kernel_rfl) ?_
       repeat (first
        | go_big_quiet_skip
        | (go_big_quiet_want;first
         | (refine quiet_load _ _ _ (.agg X) rfl rfl (by rintro _ ⟨m,rfl⟩;exact HLx.out m) ?_;go_simp;go_big_quiet_on)|(refine quiet_load _ _ _ (.agg Y) rfl rfl (by rintro _ ⟨m,rfl⟩;exact HLy.out m) ?_;go_simp;go_big_quiet_on)|(refine quiet_bin _ _ _ _ _ _ _ (_) rfl rfl rfl eqK_g (by intro w;exact HN.out w) ?_;go_simp;go_big_quiet_on)
         | (go_big_quiet_op;first|go_big_quiet_on|go_big_quiet_call (first
          | fail))))
       refine wpQuiet_nil ?_
       rintro w1 ⟨⟨_,hk_w1⟩,rfl⟩
       clear HLx HLy HN
       have Hk1:=jX hk_w1
       clear hk_w1
       go_wp2_with fail
       go_roundw
       case rel=>exact ⟨m,i+1,rfl,congrArg (Value.int .i64) (by omega),by omega,by omega,by omega,by rw [Hc.out];exact Hcl.out,by rw [Hc.out];exact HOv.out.later Hk1.out⟩
       case measure=>simp [intOf];omega
      rw [decide_eq_false hxy] at HN
      have Hc:=jX (Hst.out.trans (if_neg hxy))
      clear Hst hxy
      go_wp2_with fail
      refine wp_region_keep (by kernel_rfl) (by kernel_rfl) ?_
      repeat (first
       | go_big_quiet_skip
       | (go_big_quiet_want;first
        | (refine quiet_load _ _ _ (.agg X) rfl rfl (by rintro _ ⟨m,rfl⟩;exact HLx.out m) ?_;go_simp;go_big_quiet_on)|(refine quiet_load _ _ _ (.agg Y) rfl rfl (by rintro _ ⟨m,rfl⟩;exact HLy.out m) ?_;go_simp;go_big_quiet_on)|(refine quiet_bin _ _ _ _ _ _ _ (_) rfl rfl rfl eqK_g (by intro w;exact HN.out w) ?_;go_simp;go_big_quiet_on)
        | (go_big_quiet_op;first|go_big_quiet_on|go_big_quiet_call (first
         | fail))))
      refine wpQuiet_nil ?_
      rintro w1 ⟨⟨_,hk_w1⟩,rfl⟩
      clear HLx HLy HN
      have Hk1:=jX hk_w1
      clear hk_w1
      have HL2:=jX (HLd.out _ Hk1.out)
      have HO2:=jX (HOv.out.later Hk1.out)
      rw [Hdm.out] at HO2
      have HTh:=jX (OK_.there HO2.out mm 9 (by rw [← Hmm.out];omega))
      have HSet:=jX (OK_.setm x HO2.out)
      rw [Hcl.out,Hmm.out,← HX.out.1] at HSet
      have Hmc:(m:Int)<(l.length:Int):=by omega
      clear HLd HO2 Hk1 HOv
      go_upto_region 12 with (fail)
      refine wp_region_lit ?_
      refine' wpList_R (v:=_) (by rfl) (?ha) (fun K hK=>?ka)
      case ha=>(go_simp;try rfl)
      go_simp
      refine hK _ _ ?_
      clear hK K
      refine' wpList_R (v:=_) (by rfl) (?hb) (fun K hK=>?kb)
      case hb=>(go_simp;try rfl)
      go_simp
      refine hK _ _ ?_
      clear hK K
      refine' wpList_R (v:=_) (by rfl) (?hc) (fun K hK=>?kc)
      case hc=>(go_simp;try rfl)
      go_simp
      refine hK _ _ ?_
      clear hK K
      refine' wpList_R (v:=_) (by rfl) (?hd) (fun K hK=>?kd)
      case hd=>(go_simp;try rfl)
      go_simp
      refine hK _ _ ?_
      clear hK K
      refine' wpList_R (v:=_) (by rfl) (?he) (fun K hK=>?ke)
      case he=>(go_simp;try rfl)
      go_simp
      refine hK _ _ ?_
      clear hK K
      refine wpList_R (v:=.agg X) (by rfl) (exec_load _ _ ⟨g,r,none⟩ _ rfl rfl HL2.out) (fun K hK=>?_)
      go_simp
      refine hK _ _ ?_
      clear hK K
      refine' wpList_R (v:=_) (by rfl) (?hf) (fun K hK=>?kf)
      case hf=>(go_simp;try rfl)
      go_simp
      refine hK _ _ ?_
      clear hK K
      refine wpList_midK (by rfl) _ _ _ rfl g mm X rfl rfl (by rw [HX.out.2.1];exact HTh.out) (by rw [HX.out.2.1];exact k_size) HX.out.2.2 (fun K hK=>?_)
      go_simp
      refine hK _ _ ?_
      clear hK K
      generalize World.setCells _ g mm X.toList=u9 at *
      go_wp2_with fail
      go_roundw
      case rel=>exact ⟨m+1,i+1,congrArg (Value.int .i64) (by omega),congrArg (Value.int .i64) (by omega),by omega,by omega,by omega,by rw [Hc.out,List.length_append,Hcl.out];rfl,by rw [Hc.out,List.append_assoc];exact HSet.out⟩
      case measure=>simp [intOf];omega
     obtain rfl:i=nn:=by have:=Hnk.out;omega
     have hfull:l.take (k+i)=l:=by rw [Hnk.out,List.take_length]
     obtain⟨mm,hmm⟩:∃ mm,m*9=mm:=⟨_,rfl⟩
     obtain⟨qq,hqq⟩:∃ qq,l.length-m=qq:=⟨_,rfl⟩
     have Hq0:=jX (show 0<qq by omega)
     have HTh:=jX (OK_.there HOv.out mm (qq*9) (by omega))
     have HCut:=jX (OK_.cut HOv.out (Builtin.zeroCells rZ qq).toList (by rw [zeros_len,List.length_drop,hqq]))
     rw [hcl,hmm,hfull] at HCut
     clear hfull hlen hcl Hcl HOv
     have hmc:m≤c:=by omega
     have hml2:m≤l.length:=by omega
     have hmc2:¬ c=m:=by omega
     go_upto_region 14 with (fail)
     refine wp_region_lit ?_
     refine' wpList_R (v:=_) (by rfl) (?hg) (fun K hK=>?kg)
     case hg=>(go_simp;try rfl)
     go_simp
     refine hK _ _ ?_
     clear hK K
     refine' wpList_R (v:=_) (by rfl) (?hh) (fun K hK=>?kh)
     case hh=>(go_simp;try rfl)
     go_simp
     refine hK _ _ ?_
     clear hK K
     refine' wpList_R (v:=_) (by rfl) (?hi) (fun K hK=>?ki)
     case hi=>(go_simp;try rfl)
     go_simp
     refine hK _ _ ?_
     clear hK K
     refine wpList_K (v:=.tuple #[]) (by rfl) (exec_clear (.tmp 56) 56 _ rfl rfl (clear_k wv g mm qq _ Hq0.out HTh.out)) (fun K hK=>?_)
     go_simp
     refine hK _ _ ?_
     clear hK K HTh
     generalize World.setCells wv g mm (Builtin.zeroCells rZ qq).toList=u9 at *
     go_wp2_with fail
     go_ret
     exact ⟨_,rfl,HCut.out.1,HCut.out.2⟩
   rw [decide_eq_false hxy] at HN
   have Hc:Hid (compactS (l.take (k+1))=l.take (k+1)):=(Hst.out.trans (if_neg hxy)).trans (by rw [HC.out,Hkx.out])
   clear Hst hxy
   go_wp2_with fail
   refine wp_region_keep (by kernel_rfl) (by kernel_rfl) ?_
   repeat (first
    | go_big_quiet_skip
    | (go_big_quiet_want;first
     | (refine quiet_load _ _ _ (.agg X) rfl rfl (by rintro _ ⟨m,rfl⟩;exact HLx.out m) ?_;go_simp;go_big_quiet_on)|(refine quiet_load _ _ _ (.agg Y) rfl rfl (by rintro _ ⟨m,rfl⟩;exact HLy.out m) ?_;go_simp;go_big_quiet_on)|(refine quiet_bin _ _ _ _ _ _ _ (_) rfl rfl rfl eqK_g (by intro w;exact HN.out w) ?_;go_simp;go_big_quiet_on)
     | (go_big_quiet_op;first|go_big_quiet_on|go_big_quiet_call (first
      | fail))))
   refine wpQuiet_nil ?_
   rintro w1 ⟨⟨_,hk_w1⟩,rfl⟩
   clear HLx HLy HN
   have Hk1:=jX hk_w1
   clear hk_w1
   go_wp2_with fail
   go_roundw
   case rel=>exact ⟨k+1,by omega,by omega,congrArg (Value.int .i64) (by omega),Hc.out,HK.out.trans0 Hk1.out⟩
   case measure=>simp [intOf];omega
  obtain rfl:k=l.length:=by omega
  have HF:=HC.out
  rw [List.take_length] at HF
  have HF2:=jX HF
  clear HF
  go_wp2_with fail
  go_ret
  exact ⟨_,rfl,by rw [HF2.out];exact (HO.out.later HK.out).read,HO.out.keep.trans0 HK.out⟩
end
section
open Classical
theorem psorted_c (l:List K) (w0 w:World) (sv:Value) (h:OK_ w0 w sv l) (h9:l.length≤1000000000) :
  Calls Tryz.prog 113 #[sv] w fun e w'=>∃ v,e = .returned v∧KR w' v (sortS l)∧Keep [] w0 w':=by
 have HS:=jX (sortreal_c l w0 w sv h h9)
 have HCC:=jX (fun (m:List K) (u:World) (ho:OK_ w0 u sv m) (h:m.length=l.length)=>compact_c m w0 u sv ho (by rw [h];exact h9))
 obtain⟨oo,oc,rfl⟩:=h.form
 clear h
 go_enter Tryz.func113,Tryz.ntmps113
 go_wp2_with fail
 refine HS.out.mono ?_
 rintro e w1 ⟨rfl,l',hp,hs,ho⟩
 dsimp only
 have HC:=jX (HCC.out l' w1 ho hp.length_eq)
 have HF:=jX (compact_sortS hp.symm hs)
 clear HS HCC hp hs ho
 go_wp2_with fail
 refine HC.out.mono ?_
 rintro e w2 ⟨v,rfl,hv,hk⟩
 dsimp only
 rw [HF.out] at hv
 have HV:=jX hv
 have HK:=jX hk
 clear HC HF hv hk
 go_wp2_with fail
 go_ret
 exact ⟨_,rfl,HV.out,HK.out⟩
theorem pends_c (l:List (Iv K)) (w:World) (sv:Value) (hr:IvR w sv l) (h9:l.length≤50000) :
  Calls Tryz.prog 75 #[sv] w fun e w'=>∃ v,e = .returned v∧KR w' v (sortS (ptsL l))∧Keep [] w w':=by
 have HR:=jX hr
 obtain⟨ao,ac,rfl,_⟩:=hr.form
 clear hr
 go_enter Tryz.func75,Tryz.ntmps75
 go_wp2_with fail
 go_loopw [3,8] (fun ov c wr=>∃ k:Nat,k≤l.length∧c = .int .i64 (k:Int)∧OK_ w wr ov (ptsL (l.take k))) (fun _ c _=>l.length-(intOf c).toNat)
 case atStart=>exact ⟨0,Nat.zero_le _,rfl,OE.nil w⟩
 case round =>
  obtain⟨k,hk,rfl,hov⟩:=hrel
  obtain⟨out,hout⟩:∃ out,ptsL (l.take k)=out:=⟨_,rfl⟩
  rw [hout] at hov
  have Hlen:=jX (show out.length=2*k by rw [← hout,ptsL_len,List.length_take,Nat.min_eq_left hk])
  have Hout:=jX hout
  have HO:=jX hov
  obtain⟨oo,oc,rfl⟩:=hov.form
  clear hov hout
  by_cases hlt:k<l.length
  ·obtain⟨g,o,rfl,hg,hat⟩:=IvR.elem (HR.out.later HO.out.keep) k hlt
   have Hstep:=jX (ptsL_take hlt)
   generalize l[k]=s at *
   obtain⟨p,hp⟩:∃ p,o+k*20=p:=⟨_,rfl⟩
   rw [hp] at hat
   have HL:=jX (load_iv wr g p s hat)
   clear hat
   go_upto_region 4 with (fail)
   refine wp_region_lit ?_
   refine' wpList_R (v:=_) (by rfl) (?ha) (fun K hK=>?ka)
   case ha=>(go_simp;try rfl)
   go_simp
   refine hK _ _ ?_
   clear hK K
   refine wpList_R (v:=iv s) (by rfl) (exec_load _ _ ⟨g,p,none⟩ _ rfl rfl HL.out) (fun K hK=>?_)
   go_simp
   refine hK _ _ ?_
   clear hK K
   obtain⟨w1,gt,e1,e2,bgt,hgt,_,hk1⟩:=al1 wr (.cells #[.bool false,.string ⟨#[]⟩,.bool false,.string ⟨#[]⟩,.bool false,.string ⟨#[]⟩,.bool false,.string ⟨#[]⟩,.bool false,.bool false,.string ⟨#[]⟩,.bool false,.string ⟨#[]⟩,.bool false,.string ⟨#[]⟩,.bool false,.string ⟨#[]⟩,.bool false,.bool false,.bool false] 49)
   refine wpList_K (v:=.pointer (some ⟨wr.heap.size,0,none⟩)) (w':=wr.alloc (.cells #[.bool false,.string ⟨#[]⟩,.bool false,.string ⟨#[]⟩,.bool false,.string ⟨#[]⟩,.bool false,.string ⟨#[]⟩,.bool false,.bool false,.string ⟨#[]⟩,.bool false,.string ⟨#[]⟩,.bool false,.string ⟨#[]⟩,.bool false,.string ⟨#[]⟩,.bool false,.bool false,.bool false] 49)) (by rfl) (al_iv _ _ _ rfl) (fun K hK=>?_)
   rw [← e1,e2]
   clear e1
   go_simp
   refine hK _ _ ?_
   clear hK K
   refine wpList_rowK (by rfl) _ _ _ rfl gt (iC s) rfl rfl _ _ bgt (by exact iv_size s) (by rfl) (iv_ones s) (fun K hK=>?_)
   obtain⟨w2,e4,b4,k4⟩:=setRow_at (cs:=iC s) bgt
   rw [e4]
   go_simp
   refine hK _ _ ?_
   clear hK K e4 HL
   have HW2:=jX (show Keep [] wr w2 from hk1.trans k4 (by simp;omega))
   have HF:=jX (load_real w2 gt 0 _ (ivAt_box b4).frm)
   have HT:=jX (load_real w2 gt (0+9) _ (ivAt_box b4).upto)
   clear b4 k4 hk1 bgt
   go_upto_region 5 with (fail)
   refine wp_region_lit ?_
   refine' wpList_R (v:=_) (by rfl) (?hr) (fun K hK=>?kr)
   case hr=>(go_simp;try rfl)
   go_simp
   refine hK _ _ ?_
   clear hK K
   refine' wpList_R (v:=_) (by rfl) (?hs) (fun K hK=>?ks)
   case hs=>(go_simp;try rfl)
   go_simp
   refine hK _ _ ?_
   clear hK K
   refine wpList_R (v:=kv s.f.pt) (by rfl) (exec_load _ _ ⟨gt,0,none⟩ _ rfl rfl HF.out) (fun K hK=>?_)
   go_simp
   refine hK _ _ ?_
   clear hK K
   refine' wpList_R (v:=_) (by rfl) (?ht) (fun K hK=>?kt)
   case ht=>(go_simp;try rfl)
   go_simp
   refine hK _ _ ?_
   clear hK K
   refine wpList_R (v:=kv s.l.pt) (by rfl) (exec_load _ _ ⟨gt,9,none⟩ _ rfl rfl HT.out) (fun K hK=>?_)
   go_simp
   refine hK _ _ ?_
   clear hK K
   obtain⟨ub,gx,e3,e4,hz1,hkx,hx⟩:=KR.pair s.f.pt s.l.pt w2
   refine wpList_K (v:=.slice (some ⟨w2.heap.size,0,none⟩) 2 2) (by rfl) (exec_bs 56 2 #[(0,.tmp 14),(1,.tmp 16)] #[(0,kv s.f.pt),(1,kv s.l.pt)] _ rfl (by simp only [List.map_toArray,List.map_cons,List.map_nil];rfl) (build2_k _ _ _)) (fun K hK=>?_)
   rw [e3,e4]
   clear e3
   go_simp
   refine hK _ _ ?_
   clear hK K
   obtain⟨v4,u4,hr4,ho4,hn4,_⟩:=KR.app' (ty:=56) (HO.out.later (HW2.out.trans0 hkx)) (.inr (by simp)) hx (by rw [Hlen.out];simp;omega)
   refine wpList_K (by rfl) (exec_app (.tmp 12) (.tmp 17) 56 _ _ _ rfl rfl rfl hr4) (fun K hK=>?_)
   go_simp
   refine hK _ _ ?_
   clear hK K hr4 hx hkx
   have HN:=jX ho4
   obtain⟨no,nc,rfl⟩:=ho4.form
   clear ho4 hn4
   go_wp2_with fail
   go_roundw
   case rel=>exact ⟨k+1,by omega,congrArg (Value.int .i64) (by omega),by rw [Hstep.out,Hout.out];exact HN.out⟩
   case measure=>simp [intOf];omega
  obtain rfl:k=l.length:=by omega
  have hfin:out=ptsL l:=by rw [← Hout.out,List.take_length]
  have HC:=jX (psorted_c out w wr _ HO.out (by rw [hfin,ptsL_len];omega))
  have Hfin:=jX hfin
  clear hfin
  go_wp2_with fail
  refine HC.out.mono ?_
  rintro e w5 ⟨v,rfl,hv,hk5⟩
  rw [Hfin.out] at hv
  have HV:=jX hv
  have HK5:=jX hk5
  clear hv hk5 HC
  dsimp only
  go_wp2_with fail
  go_ret
  exact ⟨_,rfl,HV.out,HK5.out⟩
end
end Go.Proofs.YtejegogbhpmgfaaGreatDoor
