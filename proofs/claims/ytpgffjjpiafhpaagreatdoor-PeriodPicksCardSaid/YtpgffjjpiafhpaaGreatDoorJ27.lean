/- Parts of a proof: Ud. -/
import Derived.Test.YtpgffjjpiafhpaaGreatDoorJ26
import Derived.Test.YtpgffjjpiafhpaaGreatDoorJ23
set_option linter.unusedVariables false
set_option linter.unusedSimpArgs false
set_option maxRecDepth 100000
set_option maxHeartbeats 8000000
namespace Go.Proofs.YtpgffjjpiafhpaaGreatDoor
open Go.RowKit Tryz
def evP (k:Nat) (l:List (Iv K)):List (Ev K):=l.flatMap fun i=>[⟨i.f,if k=0 then 1 else 0,if k=0 then 0 else 1⟩,⟨i.l,if k=0 then -1 else 0,if k=0 then 0 else -1⟩]
theorem evP_take {k:Nat} {l:List (Iv K)} {j:Nat} (h:j<l.length):evP k (l.take (j+1))=evP k (l.take j)++[⟨l[j].f,if k=0 then 1 else 0,if k=0 then 0 else 1⟩,⟨l[j].l,if k=0 then -1 else 0,if k=0 then 0 else -1⟩]:=by
 unfold evP;rw [List.take_succ_eq_append_getElem h,List.flatMap_append];simp
theorem yfX (k:Nat) (l:List (Iv K)):(evP k l).length=2*l.length:=by
 unfold evP;induction l with
 | nil=>rfl
 | cons i l ih=>rw [List.flatMap_cons,List.length_append,ih];simp;omega
def evs (a b:List (Iv K)):Nat→List (Ev K)
 | 0=>[]
 | 1=>evP 0 a
 | _=>evP 0 a++evP 1 b
def lof (a b:List (Iv K)) (k:Nat):List (Iv K):=if k=0 then a else b
theorem evs_step (a b:List (Iv K)) {k:Nat} (hk:k<2):evs a b (k+1)=evs a b k++evP k (lof a b k):=by
 rcases k with _|_|k
 ·rfl
 ·rfl
 omega
theorem evs_two (a b:List (Iv K)):evs a b 2=evA a++evB b:=rfl
theorem ycL (ev:Operand→Value) (w:World) (o:Oper) (ho:o.op = .alloc 183):(execOp ev o).run prog w = .ok (.value (.pointer (some ⟨w.heap.size,0,none⟩))) (w.alloc (.cells #[.bool false,.string ⟨#[]⟩,.bool false,.string ⟨#[]⟩,.bool false,.string ⟨#[]⟩,.bool false,.string ⟨#[]⟩,.bool false,.bool false,.int .i64 0,.int .i64 0] 183)):=by
 unfold execOp;simp only [ho];go_simp
theorem al_ivz (ev:Operand→Value) (w:World) (o:Oper) (ho:o.op = .alloc 32):(execOp ev o).run prog w = .ok (.value (.pointer (some ⟨w.heap.size,0,none⟩))) (w.alloc (.cells #[.bool false,.string ⟨#[]⟩,.bool false,.string ⟨#[]⟩,.bool false,.string ⟨#[]⟩,.bool false,.string ⟨#[]⟩,.bool false,.bool false,.string ⟨#[]⟩,.bool false,.string ⟨#[]⟩,.bool false,.string ⟨#[]⟩,.bool false,.string ⟨#[]⟩,.bool false,.bool false,.bool false] 32)):=by
 unfold execOp;simp only [ho];go_simp
section
variable {P:Program} {ops:Array Oper} {md:Region.Mode} {S:World→Prop} {Q:Exit→Act→World→Prop}
theorem ycn {n f:Nat} {L:Array Bool→Act→World→Prop} {listed:Array Bool} {a:Act} {w:World} (i j k:Nat) {o u x:Oper} (hr:Region.ready md ops listed=[i,j,k]) (hi:i<n) (hj:j<n) (hk:k<n)
  (ho:ops[i]? = some o) (hu:ops[j]? = some u) (hx:ops[k]? = some x) (hg:o.guard=none) (hgu:u.guard=none) (hgx:x.guard=none)
  (h:∀ K:Act→World→Prop,(∀ a w,S w→yav P md ops Q S n L f (listed.setIfInBounds i true) a w→K a w)→o.wp P a w K Q)
  (h':∀ K:Act→World→Prop,(∀ a w,S w→yav P md ops Q S n L f (listed.setIfInBounds j true) a w→K a w)→u.wp P a w K Q)
  (h'':∀ K:Act→World→Prop,(∀ a w,S w→yav P md ops Q S n L f (listed.setIfInBounds k true) a w→K a w)→x.wp P a w K Q):yav P md ops Q S n L (f+1) listed a w:=by
 refine .inr ⟨by rw [hr];simp,fun l hl=>?_⟩;rw [hr] at hl;simp only [List.mem_cons,List.not_mem_nil,or_false] at hl;rcases hl with rfl|rfl|rfl
 ·refine ⟨hi,?_⟩
  unfold wpOp;simp only [ho];rw [if_pos (by simp [Region.wanted,hg])];exact .inl (h _ (fun _ _ h1 h2=>⟨h1,h2⟩))
 ·refine ⟨hj,?_⟩
  unfold wpOp;simp only [hu];rw [if_pos (by simp [Region.wanted,hgu])];exact .inl (h' _ (fun _ _ h1 h2=>⟨h1,h2⟩))
 refine ⟨hk,?_⟩;unfold wpOp;simp only [hx];rw [if_pos (by simp [Region.wanted,hgx])];exact .inl (h'' _ (fun _ _ h1 h2=>⟨h1,h2⟩))
end
def MB (W u:World) (bs:List (Nat × Obj)):Prop:=Keep [] W u∧(∀ b∈bs,u.heap[b.1]? = some b.2∧W.heap.size≤b.1)∧(bs.map (·.1)).Nodup
theorem MB.start {W u:World} (h:Keep [] W u):MB W u []:=⟨h,by simp,by simp⟩
theorem MB.move {W u u':World} {bs:List (Nat × Obj)} (h:MB W u bs) (hk:Keep [] u u'):MB W u' bs:=⟨h.1.tz hk,fun b hb=>⟨hk.heap (h.2.1 b hb).1 (by simp),(h.2.1 b hb).2⟩,h.2.2⟩
theorem MB.new {W u:World} {bs:List (Nat × Obj)} (h:MB W u bs) (z:Obj):∃ u2 g,u.alloc z=u2∧u.heap.size=g∧MB W u2 ((g,z) :: bs):=by
 obtain⟨a1,a3,a4⟩:=h;have hk:=Keep.alloc [] u z;refine ⟨_,_,rfl,rfl,a1.tz hk,?_,?_⟩
 ·intro b hb
  rcases List.mem_cons.1 hb with rfl|hb
  ·exact ⟨World.alloc_heap_new u z,a1.size⟩
  exact ⟨hk.heap (a3 b hb).1 (by simp),(a3 b hb).2⟩
 simp only [List.map_cons,List.nodup_cons];refine ⟨fun hm=>?_,a4⟩;obtain⟨x,hx,e⟩:=List.mem_map.1 hm;have:=yaa (a3 x hx).1;omega
theorem wp_rowK {P:Program} {o:Oper} {a:Act} {w:World} {K:Act→World→Prop} {Q:Exit→Act→World→Prop} (ty:TypeId) (x y:Operand) (ho:o.op = .store ty x y)
  (g:Nat) (cells:Array Value) (hx:a.eval x = .pointer (some ⟨g,0,none⟩)) (hy:a.eval y = .agg cells)
  (t:TypeId) (old:Array Value) (hg:w.heap[g]? = some (.cells old t (0,0))) (hi:(P.info? ty).map (·.size)=some cells.size)
  (hold:old.size=cells.size) (h1:cells.all (·.oneCell')=true)
  (h:K (a.put o.dst undef) (w.setRow g cells)):o.wp P a w K Q:=by
 unfold Oper.wp execOp;simp only [ho,hx,hy,Instr.storeAt,Instr.sureAddr,Sem.run_bind,Sem.run_pure,Result.andThen_ok,run_storeVar_row w g t ty old cells hg hi hold h1];exact h
theorem bC_zero:bC ⟨kZ,false⟩ = #[.bool false,.string ⟨#[]⟩,.bool false,.string ⟨#[]⟩,.bool false,.string ⟨#[]⟩,.bool false,.string ⟨#[]⟩,.bool false,.bool false]:=by
 have h1:sgB (0:Rat).num=false:=by decide
 have h2:mgS (0:Rat).num=⟨#[]⟩:=ybn.2 rfl;have h3:dnS (0:Rat).den=⟨#[]⟩:=by unfold dnS;rfl
 unfold bC bcells kcells kZ;dsimp only;rw [h1,h2,h3];rfl
theorem bv_bC (b:Bd K):bv b = .agg (bC b):=rfl
theorem ybX {P:Program} {C:World→Prop} {o:Oper} {a:Act} {K:Act→Prop} (t:TypeId) (parts:Array (Nat × Operand)) (parts':Array (Nat × Value)) (cells:Array Value) (ho:o.op = .build t parts) (hp:(parts.map fun (i,x)=>(i,a.eval x))=parts') (h:P.built t parts'.toList=some cells) (hk:K (a.put o.dst (.agg cells))):o.quiet P a C K :=
 ⟨.agg cells,fun w hw=>by
  unfold Oper.quietAt;rw [yam t parts parts' cells ho hp h]
  exact ⟨rfl,rfl⟩,hk⟩
theorem evs_small (a b:List (Iv K)):∀ e∈evA a++evB b,(-1≤e.x∧e.x≤1)∧(-1≤e.y∧e.y≤1):=by
 intro e he;rcases List.mem_append.1 he with he|he
 ·obtain⟨i,_,hi⟩:=List.mem_flatMap.1 he
  simp at hi;rcases hi with rfl|rfl<;>simp
 obtain⟨i,_,hi⟩:=List.mem_flatMap.1 he;simp at hi;rcases hi with rfl|rfl<;>simp
theorem sweepL_at {keep:Bool→Bool→Bool} {l:List (Ev K)} {k:Nat} (h:k<l.length) (n m:Int) (inn:Bool) (frm:Bd K) (out:List (Iv K)) :
  (∀ h2:k+1<l.length,l[k].at_=l[k+1].at_→ybZ keep (l.drop k) n m inn frm out=ybZ keep (l.drop (k+1)) (n+l[k].x) (m+l[k].y) inn frm out) ∧
  ((∀ h2:k+1<l.length,l[k].at_≠l[k+1].at_)→ybZ keep (l.drop k) n m inn frm out=ybZ keep (l.drop (k+1)) (n+l[k].x) (m+l[k].y) (ycC keep (n+l[k].x) (m+l[k].y)) (sweepF (ycC keep (n+l[k].x) (m+l[k].y)) inn l[k].at_ frm) (sweepO (ycC keep (n+l[k].x) (m+l[k].y)) inn l[k].at_ frm out)):=by
 rw [List.drop_eq_getElem_cons h];refine ⟨fun h2 he=>?_,fun hne=>?_⟩
 ·rw [ybZ,if_pos ⟨l[k+1],l.drop (k+1+1),List.drop_eq_getElem_cons h2,he⟩]
 rw [ybZ,if_neg ?_];rintro ⟨e',r',hr,he⟩
 have h2:k+1<l.length:=by
  rcases Nat.lt_or_ge (k+1) l.length with h2|h2
  ·exact h2
  rw [List.drop_eq_nil_of_le h2] at hr;cases hr
 rw [List.drop_eq_getElem_cons h2] at hr;injection hr with h3 h4;exact hne h2 (by rw [h3];exact he)
def TyI (w:World) (v:Value):Prop:=∀ g,v.ownBlock=some g→∃ cur,w.heap[g]? = some (.cells cur 32)
theorem tyI_of {F:List Nat} {w0 w:World} {v:Value} {l:List (Iv K)} (h:OFI F w0 w v l):TyI w v:=fun g hg=>by
 rcases h.row.2 with ⟨hv,_⟩|⟨b,cap,cur,hv,_,hb,_⟩
 ·rw [hv] at hg;cases hg
 rw [hv] at hg;injection hg with hg;subst hg;exact ⟨cur,hb⟩
theorem yiL (keep:Bool→Bool→Bool) (g:Nat) (eg:∀ args w,(callFunc g args).run prog w = .ok (.enter g args) w) (hkeep:∀ x y w,Calls prog g #[.bool x,.bool y] w fun e w'=>e = .returned (.bool (keep x y))∧Keep [] w w')
  (h0:keep false false=false) (a b:List (Iv K)) (ha:∀ i∈a,i.f<i.l) (hb:∀ i∈b,i.f<i.l) (w:World) (sv tv:Value) (hr:IvR w sv a) (hs:IvR w tv b) (h9:a.length≤10000) (h8:b.length≤10000) :
  Calls prog 122 #[sv,tv,.func (.func g) #[] #[]] w fun e w'=>∃ v out,e = .returned v∧IvR w' v out∧Norm out∧(∀ x,hasL out x=keep (hasL a x) (hasL b x))∧Keep [] w w'∧TyI w' v:=by
 have HR:=jX hr;have HS:=jX hs;have HLaw:=jX (fun (l:List (Ev K)) (hp:l.Perm (evA a++evB b)) (hs:InOrd l) (frm:Bd K)=>yjs h0 ha hb hp hs frm);have HKp:=jX hkeep;have Heg:=jX eg;obtain⟨ao,ac,rfl,_⟩:=hr.form;obtain⟨bo,bc,rfl,_⟩:=hs.form;clear hr hs ha hb hkeep eg;go_enter func122,ntmps122
 go_upto_region 2 with (fail)
 go_wp2_with fail;have hbW:(w.alloc (.cells #[.slice ao a.length ac,.slice bo b.length bc] 22)).heap[w.heap.size]? = some (.cells #[.slice ao a.length ac,.slice bo b.length bc] 22):=World.alloc_heap_new w _;have hkW:Keep [] w (w.alloc (.cells #[.slice ao a.length ac,.slice bo b.length bc] 22)):=Keep.alloc [] w _;generalize hgs:w.heap.size=gs at *;generalize w.alloc (.cells #[.slice ao a.length ac,.slice bo b.length bc] 22)=W at *;have HkW:=jX hkW;have Bgs:=jX hbW;have Hgs:=jX hgs;clear hbW hkW hgs;go_loopw [7,25] (fun lv c wr=>∃ k:Nat,k≤2∧c = .int .i64 (k:Int)∧OV_ W wr lv (evs a b k)) (fun _ c _=>2-(intOf c).toNat)
 case atStart=>exact ⟨0,by omega,rfl,OE.nil W⟩
 case round =>
  obtain⟨k,hk,rfl,hov⟩:=hrel;rename World=>wo;have HO:=jX hov;clear hov;by_cases hlt:k<2
  ·have Hstep:=jX (evs_step a b hlt)
   have Hl9:Hid ((lof a b k).length≤10000):=by unfold lof;split<;>assumption
   have HRk:Hid (∀ u,Keep [] W u→∃ lo lc,(k=0→lo=ao∧lc=ac∧(lof a b k).length=a.length)∧(k≠0→lo=bo∧lc=bc∧(lof a b k).length=b.length)∧IvR u (.slice lo (lof a b k).length lc) (lof a b k)):=by
    intro u hu;by_cases h0:k=0
    ·refine ⟨ao,ac,fun _=>⟨rfl,rfl,by unfold lof;rw [if_pos h0]⟩,fun h=>absurd h0 h,?_⟩
     unfold lof;rw [if_pos h0];exact HR.out.later (HkW.out.tz hu)
    refine ⟨bo,bc,fun h=>absurd h h0,fun _=>⟨rfl,rfl,by unfold lof;rw [if_neg h0]⟩,?_⟩;unfold lof;rw [if_neg h0];exact HS.out.later (HkW.out.tz hu)
   have HLen:=jX (show (evs a b k).length≤40000 by
    rcases k with _|_|k
    ·simp [evs]
    ·show (evP 0 a).length≤_;rw [yfX];omega
    omega)
   obtain⟨lo,lc,hf0,hf1,hrow⟩:=HRk.out W (Keep.refl _ _);have HRow:=jX hrow
   have Hc:Hid (∀ u,Keep [] W u→u.cell? ⟨gs,k,none⟩=some (.slice lo (lof a b k).length lc)):=by
    intro u hu;rw [yab (hu.heap Bgs.out (by simp))];by_cases h0:k=0
    ·obtain⟨rfl,rfl,h⟩:=hf0 h0
     subst h0;rw [h];rfl
    obtain⟨rfl,rfl,h⟩:=hf1 h0;have:k=1:=by omega
    subst this;rw [h];rfl
   clear hf0 hf1 hrow HRk;generalize lof a b k=p at *;generalize evs a b k=es at *;have hcell:=Hc.out _ HO.out.keep;obtain⟨oo,oc,rfl⟩:=HO.out.form;have hdk:decide ((k:Int)<2)=true:=by rw [decide_eq_true_iff];omega
   go_upto_region 5 with (fail)
   clear hcell;go_wp2_with fail;go_loopw [7,32] (fun lv c wq=>∃ j:Nat,j≤p.length∧c = .int .i64 (j:Int)∧OV_ W wq lv (es++evP k (p.take j))) (fun _ c _=>p.length-(intOf c).toNat)
   case atStart=>exact ⟨0,Nat.zero_le _,rfl,by simpa [evP] using HO.out⟩
   case round =>
    obtain⟨j,hj,rfl,hov⟩:=hrel;clear hdk;obtain⟨out,hout⟩:∃ out,es++evP k (p.take j)=out:=⟨_,rfl⟩;rw [hout] at hov;have HOut:=jX hout
    have HLo:=jX (show out.length≤100000 by
     have:=HLen.out;have:=Hl9.out
     rw [← hout,List.length_append,yfX,List.length_take];omega)
    have HQ:=jX hov;clear hov hout;by_cases hjl:j<p.length
    ·have hj9:j<10000:=by have:=Hl9.out;omega
     have HTk:=jX (evP_take (k:=k) hjl);obtain⟨gl,ol,rfl,hgl,hat⟩:=IvR.elem HRow.out j hjl;obtain⟨i,hi⟩:∃ i,p[j]=i:=⟨_,rfl⟩;rw [hi] at hat HTk;obtain⟨pq,hpq⟩:∃ pq,ol+j*20=pq:=⟨_,rfl⟩;rw [hpq] at hat;have HL:=jX (ydo wr gl pq i (hat.keep (HQ.out.keep.block gl hgl (by simp))));obtain⟨qo,qc,rfl⟩:=HQ.out.form;clear hi hat;go_upto_region 7 with (fail)
     refine wp_region_lit ?_;refine wV ?_;go_simp;refine wX (v:=iv i) ⟨gl,pq,none⟩ (HL.out) ?_;go_simp;refine wA (al_ivz _ _ _ rfl) (fun w1 gi e2 bgi hgi _ hk1=>?_);go_simp;refine wR gi (iC i) bgi (by exact yct i) (by rfl) (yeI i) (fun w2 b4 k4=>?_);go_simp;refine fO ?_;have Bgi:=jX b4;have HW2:=jX (show Keep [] wr w2 from hk1.trans k4 (by simp;omega))
     clear b4 k4 hk1 bgi hgi;go_upto_region 8 with (fail)
     have HbF:=jX (yeo i.f);have HbL:=jX (yeo i.l);have HF:=jX (yhD i);have HLs:=jX (last_c i);have HpF:=jX (fun n=>put_ev i.f k hlt n);have HpL:=jX (fun n=>put_ev i.l k hlt n);have HLi:=jX (fun w g (h:w.heap[g]? = some (.cells (iC i) 32))=>ydo w g 0 i (ybc h));have HSF:=jX (And.intro (yhp ⟨i.f,0,0⟩) (And.intro (yhE ⟨i.f,0,0⟩) (show (eC ⟨i.f,0,0⟩).size=12 from rfl)))
     have HSL:=jX (And.intro (yhp ⟨i.l,0,0⟩) (And.intro (yhE ⟨i.l,0,0⟩) (show (eC ⟨i.l,0,0⟩).size=12 from rfl)))
     unfold iv bv at *;rw [show (bcells i.f).toArray=bC i.f from rfl] at HbF HF
     rw [show (bcells i.l).toArray=bC i.l from rfl] at HbL HLs
     generalize iC i=I at *;generalize bC i.f=F at *;generalize bC i.l=L at *;generalize eC ⟨i.f,0,0⟩=EF at *;generalize eC ⟨i.l,0,0⟩=EL at *;go_cut [12,13] (fun xv yv wx=>∃ g1 g2:Nat,xv = .pointer (some ⟨g1,0,none⟩)∧yv = .pointer (some ⟨g2,0,none⟩)∧g1≠g2∧w2.heap.size≤g1∧w2.heap.size≤g2∧wx.heap[g1]? = some (.cells EF 183)∧wx.heap[g2]? = some (.cells EL 183)∧Keep [] w2 wx)
     case first =>
      refine yah (S:=fun u=>Keep [] w2 u) 9 (by kernel_rfl) (by kernel_rfl) (fun _ _ d _ _ h=>by cases d<;>exact h) ?_;have hS0:=Keep.drew [] w2;have HM:=jX (MB.start hS0);generalize World.drew w2=u at *;refine tU (v:=.agg I) 0 hS0 (fun w hw=>ybw _ _ ⟨gi,0,none⟩ _ rfl rfl (HLi.out _ gi (hw.heap Bgi.out (by simp)))) ?_;go_simp;refine tU (v:=.agg I) 3 hS0 (fun w hw=>ybw _ _ ⟨gi,0,none⟩ _ rfl rfl (HLi.out _ gi (hw.heap Bgi.out (by simp)))) ?_;go_simp;refine' share2 (f:=1) _ #[true,true,true,true,true,true,true,true,false,false] (fun x g1 g2=>w2.heap.size≤g1∧w2.heap.size≤g2∧g1≠g2∧x.heap[g1]? = some (.cells #[.bool false,.string ⟨#[]⟩,.bool false,.string ⟨#[]⟩,.bool false,.string ⟨#[]⟩,.bool false,.string ⟨#[]⟩,.bool false,.bool false,.int .i64 0,.int .i64 0] 183)∧x.heap[g2]? = some (.cells #[.bool false,.string ⟨#[]⟩,.bool false,.string ⟨#[]⟩,.bool false,.string ⟨#[]⟩,.bool false,.string ⟨#[]⟩,.bool false,.bool false,.int .i64 0,.int .i64 0] 183)∧Keep [] w2 x) (fun key=>?tro) ?kyo
      case tro =>
       refine ycn 1 6 7 (by kernel_rfl) (by decide) (by decide) (by decide) (by rfl) (by rfl) (by rfl) (by rfl) (by rfl) (by rfl) (fun K hK=>?_) (fun K hK=>?_) (fun K hK=>?_)
       ·skip
        refine pK 77 #[.agg I] hK (HF.out _) (fun u1 hk1 K hK=>?_);have hS0:=hS0.tz hk1;have HM:=jX (HM.out.move hk1);go_simp;refine hK _ hS0 ?_;clear hK K hk1;refine tB 2 #[(0,.agg F)] hS0 HbF.out ?_;go_simp;refine ycn 4 6 7 (by kernel_rfl) (by decide) (by decide) (by decide) (by rfl) (by rfl) (by rfl) (by rfl) (by rfl) (by rfl) (fun K hK=>?_) (fun K hK=>?_) (fun K hK=>?_)
        ·skip
         refine pK 78 #[.agg I] hK (HLs.out _) (fun u1 hk1 K hK=>?_);have hS0:=hS0.tz hk1;have HM:=jX (HM.out.move hk1);go_simp;refine hK _ hS0 ?_;clear hK K hk1;refine tB 5 #[(0,.agg L)] hS0 HbL.out ?_;go_simp;refine yak 6 7 (by kernel_rfl) (by decide) (by decide) (by rfl) (by rfl) (by rfl) (by rfl) (fun K hK=>?_) (fun K hK=>?_)
         ·skip
          obtain⟨u2,g1,e1,e2,hm2⟩:=HM.out.new (.cells #[.bool false,.string ⟨#[]⟩,.bool false,.string ⟨#[]⟩,.bool false,.string ⟨#[]⟩,.bool false,.string ⟨#[]⟩,.bool false,.bool false,.int .i64 0,.int .i64 0] 183);refine ybD (.pointer (some ⟨_,0,none⟩)) _ (ycL _ _ _ rfl) ?_;rw [e1,e2];go_simp;have HM:=jX hm2;have hS0:=hm2.1;clear e1 e2 hm2;refine hK _ _ hS0 ?_;clear hK K;refine jO 7 (fun K hK=>?_);obtain⟨u2,g2,e1,e2,hm2⟩:=HM.out.new (.cells #[.bool false,.string ⟨#[]⟩,.bool false,.string ⟨#[]⟩,.bool false,.string ⟨#[]⟩,.bool false,.string ⟨#[]⟩,.bool false,.bool false,.int .i64 0,.int .i64 0] 183);refine ybD (.pointer (some ⟨_,0,none⟩)) _ (ycL _ _ _ rfl) ?_;rw [e1,e2];go_simp;have HM:=jX hm2;have hS0:=hm2.1;clear e1 e2 hm2;refine hK _ _ hS0 ?_;clear hK K;have Bm1:=HM.out.2.1 (g1,.cells #[.bool false,.string ⟨#[]⟩,.bool false,.string ⟨#[]⟩,.bool false,.string ⟨#[]⟩,.bool false,.string ⟨#[]⟩,.bool false,.bool false,.int .i64 0,.int .i64 0] 183) (by simp);have Bm2:=HM.out.2.1 (g2,.cells #[.bool false,.string ⟨#[]⟩,.bool false,.string ⟨#[]⟩,.bool false,.string ⟨#[]⟩,.bool false,.string ⟨#[]⟩,.bool false,.bool false,.int .i64 0,.int .i64 0] 183) (by simp);have hne12:g1≠g2:=by have:=HM.out.2.2;simp at this;omega
          exact key _ _ g1 g2 (by kernel_rfl) ⟨Bm1.2,Bm2.2,hne12,Bm1.1,Bm2.1,hS0⟩
         skip
         obtain⟨u2,g2,e1,e2,hm2⟩:=HM.out.new (.cells #[.bool false,.string ⟨#[]⟩,.bool false,.string ⟨#[]⟩,.bool false,.string ⟨#[]⟩,.bool false,.string ⟨#[]⟩,.bool false,.bool false,.int .i64 0,.int .i64 0] 183);refine ybD (.pointer (some ⟨_,0,none⟩)) _ (ycL _ _ _ rfl) ?_;rw [e1,e2];go_simp;have HM:=jX hm2;have hS0:=hm2.1;clear e1 e2 hm2;refine hK _ _ hS0 ?_;clear hK K;refine jO 6 (fun K hK=>?_);obtain⟨u2,g1,e1,e2,hm2⟩:=HM.out.new (.cells #[.bool false,.string ⟨#[]⟩,.bool false,.string ⟨#[]⟩,.bool false,.string ⟨#[]⟩,.bool false,.string ⟨#[]⟩,.bool false,.bool false,.int .i64 0,.int .i64 0] 183);refine ybD (.pointer (some ⟨_,0,none⟩)) _ (ycL _ _ _ rfl) ?_;rw [e1,e2];go_simp;have HM:=jX hm2;have hS0:=hm2.1;clear e1 e2 hm2;refine hK _ _ hS0 ?_;clear hK K;have Bm1:=HM.out.2.1 (g1,.cells #[.bool false,.string ⟨#[]⟩,.bool false,.string ⟨#[]⟩,.bool false,.string ⟨#[]⟩,.bool false,.string ⟨#[]⟩,.bool false,.bool false,.int .i64 0,.int .i64 0] 183) (by simp);have Bm2:=HM.out.2.1 (g2,.cells #[.bool false,.string ⟨#[]⟩,.bool false,.string ⟨#[]⟩,.bool false,.string ⟨#[]⟩,.bool false,.string ⟨#[]⟩,.bool false,.bool false,.int .i64 0,.int .i64 0] 183) (by simp);have hne12:g1≠g2:=by have:=HM.out.2.2;simp at this;omega
         exact key _ _ g1 g2 (by kernel_rfl) ⟨Bm1.2,Bm2.2,hne12,Bm1.1,Bm2.1,hS0⟩
        ·skip
         obtain⟨u2,g1,e1,e2,hm2⟩:=HM.out.new (.cells #[.bool false,.string ⟨#[]⟩,.bool false,.string ⟨#[]⟩,.bool false,.string ⟨#[]⟩,.bool false,.string ⟨#[]⟩,.bool false,.bool false,.int .i64 0,.int .i64 0] 183);refine ybD (.pointer (some ⟨_,0,none⟩)) _ (ycL _ _ _ rfl) ?_;rw [e1,e2];go_simp;have HM:=jX hm2;have hS0:=hm2.1;clear e1 e2 hm2;refine hK _ _ hS0 ?_;clear hK K;refine yak 4 7 (by kernel_rfl) (by decide) (by decide) (by rfl) (by rfl) (by rfl) (by rfl) (fun K hK=>?_) (fun K hK=>?_)
         ·skip
          refine pK 78 #[.agg I] hK (HLs.out _) (fun u1 hk1 K hK=>?_);have hS0:=hS0.tz hk1;have HM:=jX (HM.out.move hk1);go_simp;refine hK _ hS0 ?_;clear hK K hk1;refine tB 5 #[(0,.agg L)] hS0 HbL.out ?_;go_simp;refine jO 7 (fun K hK=>?_);obtain⟨u2,g2,e1,e2,hm2⟩:=HM.out.new (.cells #[.bool false,.string ⟨#[]⟩,.bool false,.string ⟨#[]⟩,.bool false,.string ⟨#[]⟩,.bool false,.string ⟨#[]⟩,.bool false,.bool false,.int .i64 0,.int .i64 0] 183);refine ybD (.pointer (some ⟨_,0,none⟩)) _ (ycL _ _ _ rfl) ?_;rw [e1,e2];go_simp;have HM:=jX hm2;have hS0:=hm2.1;clear e1 e2 hm2;refine hK _ _ hS0 ?_;clear hK K;have Bm1:=HM.out.2.1 (g1,.cells #[.bool false,.string ⟨#[]⟩,.bool false,.string ⟨#[]⟩,.bool false,.string ⟨#[]⟩,.bool false,.string ⟨#[]⟩,.bool false,.bool false,.int .i64 0,.int .i64 0] 183) (by simp);have Bm2:=HM.out.2.1 (g2,.cells #[.bool false,.string ⟨#[]⟩,.bool false,.string ⟨#[]⟩,.bool false,.string ⟨#[]⟩,.bool false,.string ⟨#[]⟩,.bool false,.bool false,.int .i64 0,.int .i64 0] 183) (by simp);have hne12:g1≠g2:=by have:=HM.out.2.2;simp at this;omega
          exact key _ _ g1 g2 (by kernel_rfl) ⟨Bm1.2,Bm2.2,hne12,Bm1.1,Bm2.1,hS0⟩
         skip
         obtain⟨u2,g2,e1,e2,hm2⟩:=HM.out.new (.cells #[.bool false,.string ⟨#[]⟩,.bool false,.string ⟨#[]⟩,.bool false,.string ⟨#[]⟩,.bool false,.string ⟨#[]⟩,.bool false,.bool false,.int .i64 0,.int .i64 0] 183);refine ybD (.pointer (some ⟨_,0,none⟩)) _ (ycL _ _ _ rfl) ?_;rw [e1,e2];go_simp;have HM:=jX hm2;have hS0:=hm2.1;clear e1 e2 hm2;refine hK _ _ hS0 ?_;clear hK K;refine jO 4 (fun K hK=>?_);refine pK 78 #[.agg I] hK (HLs.out _) (fun u1 hk1 K hK=>?_);have hS0:=hS0.tz hk1;have HM:=jX (HM.out.move hk1);go_simp;refine hK _ hS0 ?_;clear hK K hk1;refine tB 5 #[(0,.agg L)] hS0 HbL.out ?_;go_simp;refine fO ?_;have Bm1:=HM.out.2.1 (g1,.cells #[.bool false,.string ⟨#[]⟩,.bool false,.string ⟨#[]⟩,.bool false,.string ⟨#[]⟩,.bool false,.string ⟨#[]⟩,.bool false,.bool false,.int .i64 0,.int .i64 0] 183) (by simp);have Bm2:=HM.out.2.1 (g2,.cells #[.bool false,.string ⟨#[]⟩,.bool false,.string ⟨#[]⟩,.bool false,.string ⟨#[]⟩,.bool false,.string ⟨#[]⟩,.bool false,.bool false,.int .i64 0,.int .i64 0] 183) (by simp);have hne12:g1≠g2:=by have:=HM.out.2.2;simp at this;omega
         exact key _ _ g1 g2 (by kernel_rfl) ⟨Bm1.2,Bm2.2,hne12,Bm1.1,Bm2.1,hS0⟩
        skip
        obtain⟨u2,g2,e1,e2,hm2⟩:=HM.out.new (.cells #[.bool false,.string ⟨#[]⟩,.bool false,.string ⟨#[]⟩,.bool false,.string ⟨#[]⟩,.bool false,.string ⟨#[]⟩,.bool false,.bool false,.int .i64 0,.int .i64 0] 183);refine ybD (.pointer (some ⟨_,0,none⟩)) _ (ycL _ _ _ rfl) ?_;rw [e1,e2];go_simp;have HM:=jX hm2;have hS0:=hm2.1;clear e1 e2 hm2;refine hK _ _ hS0 ?_;clear hK K;refine yak 4 6 (by kernel_rfl) (by decide) (by decide) (by rfl) (by rfl) (by rfl) (by rfl) (fun K hK=>?_) (fun K hK=>?_)
        ·skip
         refine pK 78 #[.agg I] hK (HLs.out _) (fun u1 hk1 K hK=>?_);have hS0:=hS0.tz hk1;have HM:=jX (HM.out.move hk1);go_simp;refine hK _ hS0 ?_;clear hK K hk1;refine tB 5 #[(0,.agg L)] hS0 HbL.out ?_;go_simp;refine jO 6 (fun K hK=>?_);obtain⟨u2,g1,e1,e2,hm2⟩:=HM.out.new (.cells #[.bool false,.string ⟨#[]⟩,.bool false,.string ⟨#[]⟩,.bool false,.string ⟨#[]⟩,.bool false,.string ⟨#[]⟩,.bool false,.bool false,.int .i64 0,.int .i64 0] 183);refine ybD (.pointer (some ⟨_,0,none⟩)) _ (ycL _ _ _ rfl) ?_;rw [e1,e2];go_simp;have HM:=jX hm2;have hS0:=hm2.1;clear e1 e2 hm2;refine hK _ _ hS0 ?_;clear hK K;have Bm1:=HM.out.2.1 (g1,.cells #[.bool false,.string ⟨#[]⟩,.bool false,.string ⟨#[]⟩,.bool false,.string ⟨#[]⟩,.bool false,.string ⟨#[]⟩,.bool false,.bool false,.int .i64 0,.int .i64 0] 183) (by simp);have Bm2:=HM.out.2.1 (g2,.cells #[.bool false,.string ⟨#[]⟩,.bool false,.string ⟨#[]⟩,.bool false,.string ⟨#[]⟩,.bool false,.string ⟨#[]⟩,.bool false,.bool false,.int .i64 0,.int .i64 0] 183) (by simp);have hne12:g1≠g2:=by have:=HM.out.2.2;simp at this;omega
         exact key _ _ g1 g2 (by kernel_rfl) ⟨Bm1.2,Bm2.2,hne12,Bm1.1,Bm2.1,hS0⟩
        skip
        obtain⟨u2,g1,e1,e2,hm2⟩:=HM.out.new (.cells #[.bool false,.string ⟨#[]⟩,.bool false,.string ⟨#[]⟩,.bool false,.string ⟨#[]⟩,.bool false,.string ⟨#[]⟩,.bool false,.bool false,.int .i64 0,.int .i64 0] 183);refine ybD (.pointer (some ⟨_,0,none⟩)) _ (ycL _ _ _ rfl) ?_;rw [e1,e2];go_simp;have HM:=jX hm2;have hS0:=hm2.1;clear e1 e2 hm2;refine hK _ _ hS0 ?_;clear hK K;refine jO 4 (fun K hK=>?_);refine pK 78 #[.agg I] hK (HLs.out _) (fun u1 hk1 K hK=>?_);have hS0:=hS0.tz hk1;have HM:=jX (HM.out.move hk1);go_simp;refine hK _ hS0 ?_;clear hK K hk1;refine tB 5 #[(0,.agg L)] hS0 HbL.out ?_;go_simp;refine fO ?_;have Bm1:=HM.out.2.1 (g1,.cells #[.bool false,.string ⟨#[]⟩,.bool false,.string ⟨#[]⟩,.bool false,.string ⟨#[]⟩,.bool false,.string ⟨#[]⟩,.bool false,.bool false,.int .i64 0,.int .i64 0] 183) (by simp);have Bm2:=HM.out.2.1 (g2,.cells #[.bool false,.string ⟨#[]⟩,.bool false,.string ⟨#[]⟩,.bool false,.string ⟨#[]⟩,.bool false,.string ⟨#[]⟩,.bool false,.bool false,.int .i64 0,.int .i64 0] 183) (by simp);have hne12:g1≠g2:=by have:=HM.out.2.2;simp at this;omega
        exact key _ _ g1 g2 (by kernel_rfl) ⟨Bm1.2,Bm2.2,hne12,Bm1.1,Bm2.1,hS0⟩
       ·skip
        obtain⟨u2,g1,e1,e2,hm2⟩:=HM.out.new (.cells #[.bool false,.string ⟨#[]⟩,.bool false,.string ⟨#[]⟩,.bool false,.string ⟨#[]⟩,.bool false,.string ⟨#[]⟩,.bool false,.bool false,.int .i64 0,.int .i64 0] 183);refine ybD (.pointer (some ⟨_,0,none⟩)) _ (ycL _ _ _ rfl) ?_;rw [e1,e2];go_simp;have HM:=jX hm2;have hS0:=hm2.1;clear e1 e2 hm2;refine hK _ _ hS0 ?_;clear hK K;refine yak 1 7 (by kernel_rfl) (by decide) (by decide) (by rfl) (by rfl) (by rfl) (by rfl) (fun K hK=>?_) (fun K hK=>?_)
        ·skip
         refine pK 77 #[.agg I] hK (HF.out _) (fun u1 hk1 K hK=>?_);have hS0:=hS0.tz hk1;have HM:=jX (HM.out.move hk1);go_simp;refine hK _ hS0 ?_;clear hK K hk1;refine tB 2 #[(0,.agg F)] hS0 HbF.out ?_;go_simp;refine yak 4 7 (by kernel_rfl) (by decide) (by decide) (by rfl) (by rfl) (by rfl) (by rfl) (fun K hK=>?_) (fun K hK=>?_)
         ·skip
          refine pK 78 #[.agg I] hK (HLs.out _) (fun u1 hk1 K hK=>?_);have hS0:=hS0.tz hk1;have HM:=jX (HM.out.move hk1);go_simp;refine hK _ hS0 ?_;clear hK K hk1;refine tB 5 #[(0,.agg L)] hS0 HbL.out ?_;go_simp;refine jO 7 (fun K hK=>?_);obtain⟨u2,g2,e1,e2,hm2⟩:=HM.out.new (.cells #[.bool false,.string ⟨#[]⟩,.bool false,.string ⟨#[]⟩,.bool false,.string ⟨#[]⟩,.bool false,.string ⟨#[]⟩,.bool false,.bool false,.int .i64 0,.int .i64 0] 183);refine ybD (.pointer (some ⟨_,0,none⟩)) _ (ycL _ _ _ rfl) ?_;rw [e1,e2];go_simp;have HM:=jX hm2;have hS0:=hm2.1;clear e1 e2 hm2;refine hK _ _ hS0 ?_;clear hK K;have Bm1:=HM.out.2.1 (g1,.cells #[.bool false,.string ⟨#[]⟩,.bool false,.string ⟨#[]⟩,.bool false,.string ⟨#[]⟩,.bool false,.string ⟨#[]⟩,.bool false,.bool false,.int .i64 0,.int .i64 0] 183) (by simp);have Bm2:=HM.out.2.1 (g2,.cells #[.bool false,.string ⟨#[]⟩,.bool false,.string ⟨#[]⟩,.bool false,.string ⟨#[]⟩,.bool false,.string ⟨#[]⟩,.bool false,.bool false,.int .i64 0,.int .i64 0] 183) (by simp);have hne12:g1≠g2:=by have:=HM.out.2.2;simp at this;omega
          exact key _ _ g1 g2 (by kernel_rfl) ⟨Bm1.2,Bm2.2,hne12,Bm1.1,Bm2.1,hS0⟩
         skip
         obtain⟨u2,g2,e1,e2,hm2⟩:=HM.out.new (.cells #[.bool false,.string ⟨#[]⟩,.bool false,.string ⟨#[]⟩,.bool false,.string ⟨#[]⟩,.bool false,.string ⟨#[]⟩,.bool false,.bool false,.int .i64 0,.int .i64 0] 183);refine ybD (.pointer (some ⟨_,0,none⟩)) _ (ycL _ _ _ rfl) ?_;rw [e1,e2];go_simp;have HM:=jX hm2;have hS0:=hm2.1;clear e1 e2 hm2;refine hK _ _ hS0 ?_;clear hK K;refine jO 4 (fun K hK=>?_);refine pK 78 #[.agg I] hK (HLs.out _) (fun u1 hk1 K hK=>?_);have hS0:=hS0.tz hk1;have HM:=jX (HM.out.move hk1);go_simp;refine hK _ hS0 ?_;clear hK K hk1;refine tB 5 #[(0,.agg L)] hS0 HbL.out ?_;go_simp;refine fO ?_;have Bm1:=HM.out.2.1 (g1,.cells #[.bool false,.string ⟨#[]⟩,.bool false,.string ⟨#[]⟩,.bool false,.string ⟨#[]⟩,.bool false,.string ⟨#[]⟩,.bool false,.bool false,.int .i64 0,.int .i64 0] 183) (by simp);have Bm2:=HM.out.2.1 (g2,.cells #[.bool false,.string ⟨#[]⟩,.bool false,.string ⟨#[]⟩,.bool false,.string ⟨#[]⟩,.bool false,.string ⟨#[]⟩,.bool false,.bool false,.int .i64 0,.int .i64 0] 183) (by simp);have hne12:g1≠g2:=by have:=HM.out.2.2;simp at this;omega
         exact key _ _ g1 g2 (by kernel_rfl) ⟨Bm1.2,Bm2.2,hne12,Bm1.1,Bm2.1,hS0⟩
        skip
        obtain⟨u2,g2,e1,e2,hm2⟩:=HM.out.new (.cells #[.bool false,.string ⟨#[]⟩,.bool false,.string ⟨#[]⟩,.bool false,.string ⟨#[]⟩,.bool false,.string ⟨#[]⟩,.bool false,.bool false,.int .i64 0,.int .i64 0] 183);refine ybD (.pointer (some ⟨_,0,none⟩)) _ (ycL _ _ _ rfl) ?_;rw [e1,e2];go_simp;have HM:=jX hm2;have hS0:=hm2.1;clear e1 e2 hm2;refine hK _ _ hS0 ?_;clear hK K;refine jO 1 (fun K hK=>?_);refine pK 77 #[.agg I] hK (HF.out _) (fun u1 hk1 K hK=>?_);have hS0:=hS0.tz hk1;have HM:=jX (HM.out.move hk1);go_simp;refine hK _ hS0 ?_;clear hK K hk1;refine tB 2 #[(0,.agg F)] hS0 HbF.out ?_;go_simp;refine jO 4 (fun K hK=>?_);refine pK 78 #[.agg I] hK (HLs.out _) (fun u1 hk1 K hK=>?_);have hS0:=hS0.tz hk1;have HM:=jX (HM.out.move hk1);go_simp;refine hK _ hS0 ?_;clear hK K hk1;refine tB 5 #[(0,.agg L)] hS0 HbL.out ?_;go_simp;refine fO ?_;have Bm1:=HM.out.2.1 (g1,.cells #[.bool false,.string ⟨#[]⟩,.bool false,.string ⟨#[]⟩,.bool false,.string ⟨#[]⟩,.bool false,.string ⟨#[]⟩,.bool false,.bool false,.int .i64 0,.int .i64 0] 183) (by simp);have Bm2:=HM.out.2.1 (g2,.cells #[.bool false,.string ⟨#[]⟩,.bool false,.string ⟨#[]⟩,.bool false,.string ⟨#[]⟩,.bool false,.string ⟨#[]⟩,.bool false,.bool false,.int .i64 0,.int .i64 0] 183) (by simp);have hne12:g1≠g2:=by have:=HM.out.2.2;simp at this;omega
        exact key _ _ g1 g2 (by kernel_rfl) ⟨Bm1.2,Bm2.2,hne12,Bm1.1,Bm2.1,hS0⟩
       skip
       obtain⟨u2,g2,e1,e2,hm2⟩:=HM.out.new (.cells #[.bool false,.string ⟨#[]⟩,.bool false,.string ⟨#[]⟩,.bool false,.string ⟨#[]⟩,.bool false,.string ⟨#[]⟩,.bool false,.bool false,.int .i64 0,.int .i64 0] 183);refine ybD (.pointer (some ⟨_,0,none⟩)) _ (ycL _ _ _ rfl) ?_;rw [e1,e2];go_simp;have HM:=jX hm2;have hS0:=hm2.1;clear e1 e2 hm2;refine hK _ _ hS0 ?_;clear hK K;refine yak 1 6 (by kernel_rfl) (by decide) (by decide) (by rfl) (by rfl) (by rfl) (by rfl) (fun K hK=>?_) (fun K hK=>?_)
       ·skip
        refine pK 77 #[.agg I] hK (HF.out _) (fun u1 hk1 K hK=>?_);have hS0:=hS0.tz hk1;have HM:=jX (HM.out.move hk1);go_simp;refine hK _ hS0 ?_;clear hK K hk1;refine tB 2 #[(0,.agg F)] hS0 HbF.out ?_;go_simp;refine yak 4 6 (by kernel_rfl) (by decide) (by decide) (by rfl) (by rfl) (by rfl) (by rfl) (fun K hK=>?_) (fun K hK=>?_)
        ·skip
         refine pK 78 #[.agg I] hK (HLs.out _) (fun u1 hk1 K hK=>?_);have hS0:=hS0.tz hk1;have HM:=jX (HM.out.move hk1);go_simp;refine hK _ hS0 ?_;clear hK K hk1;refine tB 5 #[(0,.agg L)] hS0 HbL.out ?_;go_simp;refine jO 6 (fun K hK=>?_);obtain⟨u2,g1,e1,e2,hm2⟩:=HM.out.new (.cells #[.bool false,.string ⟨#[]⟩,.bool false,.string ⟨#[]⟩,.bool false,.string ⟨#[]⟩,.bool false,.string ⟨#[]⟩,.bool false,.bool false,.int .i64 0,.int .i64 0] 183);refine ybD (.pointer (some ⟨_,0,none⟩)) _ (ycL _ _ _ rfl) ?_;rw [e1,e2];go_simp;have HM:=jX hm2;have hS0:=hm2.1;clear e1 e2 hm2;refine hK _ _ hS0 ?_;clear hK K;have Bm1:=HM.out.2.1 (g1,.cells #[.bool false,.string ⟨#[]⟩,.bool false,.string ⟨#[]⟩,.bool false,.string ⟨#[]⟩,.bool false,.string ⟨#[]⟩,.bool false,.bool false,.int .i64 0,.int .i64 0] 183) (by simp);have Bm2:=HM.out.2.1 (g2,.cells #[.bool false,.string ⟨#[]⟩,.bool false,.string ⟨#[]⟩,.bool false,.string ⟨#[]⟩,.bool false,.string ⟨#[]⟩,.bool false,.bool false,.int .i64 0,.int .i64 0] 183) (by simp);have hne12:g1≠g2:=by have:=HM.out.2.2;simp at this;omega
         exact key _ _ g1 g2 (by kernel_rfl) ⟨Bm1.2,Bm2.2,hne12,Bm1.1,Bm2.1,hS0⟩
        skip
        obtain⟨u2,g1,e1,e2,hm2⟩:=HM.out.new (.cells #[.bool false,.string ⟨#[]⟩,.bool false,.string ⟨#[]⟩,.bool false,.string ⟨#[]⟩,.bool false,.string ⟨#[]⟩,.bool false,.bool false,.int .i64 0,.int .i64 0] 183);refine ybD (.pointer (some ⟨_,0,none⟩)) _ (ycL _ _ _ rfl) ?_;rw [e1,e2];go_simp;have HM:=jX hm2;have hS0:=hm2.1;clear e1 e2 hm2;refine hK _ _ hS0 ?_;clear hK K;refine jO 4 (fun K hK=>?_);refine pK 78 #[.agg I] hK (HLs.out _) (fun u1 hk1 K hK=>?_);have hS0:=hS0.tz hk1;have HM:=jX (HM.out.move hk1);go_simp;refine hK _ hS0 ?_;clear hK K hk1;refine tB 5 #[(0,.agg L)] hS0 HbL.out ?_;go_simp;refine fO ?_;have Bm1:=HM.out.2.1 (g1,.cells #[.bool false,.string ⟨#[]⟩,.bool false,.string ⟨#[]⟩,.bool false,.string ⟨#[]⟩,.bool false,.string ⟨#[]⟩,.bool false,.bool false,.int .i64 0,.int .i64 0] 183) (by simp);have Bm2:=HM.out.2.1 (g2,.cells #[.bool false,.string ⟨#[]⟩,.bool false,.string ⟨#[]⟩,.bool false,.string ⟨#[]⟩,.bool false,.string ⟨#[]⟩,.bool false,.bool false,.int .i64 0,.int .i64 0] 183) (by simp);have hne12:g1≠g2:=by have:=HM.out.2.2;simp at this;omega
        exact key _ _ g1 g2 (by kernel_rfl) ⟨Bm1.2,Bm2.2,hne12,Bm1.1,Bm2.1,hS0⟩
       skip
       obtain⟨u2,g1,e1,e2,hm2⟩:=HM.out.new (.cells #[.bool false,.string ⟨#[]⟩,.bool false,.string ⟨#[]⟩,.bool false,.string ⟨#[]⟩,.bool false,.string ⟨#[]⟩,.bool false,.bool false,.int .i64 0,.int .i64 0] 183);refine ybD (.pointer (some ⟨_,0,none⟩)) _ (ycL _ _ _ rfl) ?_;rw [e1,e2];go_simp;have HM:=jX hm2;have hS0:=hm2.1;clear e1 e2 hm2;refine hK _ _ hS0 ?_;clear hK K;refine jO 1 (fun K hK=>?_);refine pK 77 #[.agg I] hK (HF.out _) (fun u1 hk1 K hK=>?_);have hS0:=hS0.tz hk1;have HM:=jX (HM.out.move hk1);go_simp;refine hK _ hS0 ?_;clear hK K hk1;refine tB 2 #[(0,.agg F)] hS0 HbF.out ?_;go_simp;refine jO 4 (fun K hK=>?_);refine pK 78 #[.agg I] hK (HLs.out _) (fun u1 hk1 K hK=>?_);have hS0:=hS0.tz hk1;have HM:=jX (HM.out.move hk1);go_simp;refine hK _ hS0 ?_;clear hK K hk1;refine tB 5 #[(0,.agg L)] hS0 HbL.out ?_;go_simp;refine fO ?_;have Bm1:=HM.out.2.1 (g1,.cells #[.bool false,.string ⟨#[]⟩,.bool false,.string ⟨#[]⟩,.bool false,.string ⟨#[]⟩,.bool false,.string ⟨#[]⟩,.bool false,.bool false,.int .i64 0,.int .i64 0] 183) (by simp);have Bm2:=HM.out.2.1 (g2,.cells #[.bool false,.string ⟨#[]⟩,.bool false,.string ⟨#[]⟩,.bool false,.string ⟨#[]⟩,.bool false,.string ⟨#[]⟩,.bool false,.bool false,.int .i64 0,.int .i64 0] 183) (by simp);have hne12:g1≠g2:=by have:=HM.out.2.2;simp at this;omega
       exact key _ _ g1 g2 (by kernel_rfl) ⟨Bm1.2,Bm2.2,hne12,Bm1.1,Bm2.1,hS0⟩
      case kyo =>
       rintro x g1 g2 ⟨hg1,hg2,hne12,bm1,bm2,hS0⟩;refine jO 8 (fun K hK=>?_);refine wp_rowK _ _ _ rfl g1 EF rfl rfl _ _ bm1 HSF.out.1 (by rw [HSF.out.2.2];rfl) HSF.out.2.1 ?_;obtain⟨u3,e3,b3,k3⟩:=yaD (cs:=EF) bm1;rw [e3];go_simp;have hS0:=hS0.trans k3 (by simp;exact hg1);have b2:=k3.heap bm2 (by simp;omega);refine hK _ _ hS0 ?_;clear hK K bm1 bm2 k3 e3;refine ⟨by kernel_rfl,?_⟩;simp only [List.drop_succ_cons,List.drop_zero];refine yaM (by rfl) _ _ _ rfl g2 EL rfl rfl _ _ b2 HSL.out.1 (by rw [HSL.out.2.2];rfl) HSL.out.2.1 (fun K hK=>?_);obtain⟨u4,e4,b4,k4⟩:=yaD (cs:=EL) b2;rw [e4];go_simp;refine hK _ _ ?_;have hS0:=hS0.trans k4 (by simp;exact hg2);have b5:=k4.heap b3 (by simp;omega);clear hK K e4 k4 b3 b2;go_wp2_with fail;go_meet
       exact ⟨g1,g2,rfl,rfl,hne12,hg1,hg2,b5,b4,hS0⟩
     case rest =>
      obtain⟨g1,g2,rfl,rfl,hne,hg1,hg2,b1,b2,hkc⟩:=hcut;have HkC:=jX (HW2.out.tz hkc);have Hwr:=HW2.out.size;have Hb1:=jX b1;have Hb2:=jX b2;have HNe:=jX hne;have Hg1:=jX (show wr.heap.size≤g1 by omega)
      have Hg2:=jX (show wr.heap.size≤g2 by omega)
      clear hkc HF HLs HbF HbL HLi Bgi HW2 HL b1 b2 hne hg1 hg2 Hwr;go_upto_region 9 with (fail)
      have hki:(k:Int)<2:=by omega
      refine wp_region_lit ?_;refine wV ?_;go_simp;refine wV ?_;go_simp;refine wV ?_;go_simp;refine wV ?_;go_simp;refine yej (by rfl) _ _ _ rfl g1 (10+k) (.int .i64 1) rfl rfl rfl (yes Hb1.out _ _ (by rw [HSF.out.2.2];omega)) (by kernel_rfl) (fun K hK=>?_);obtain⟨b3,k3⟩:=ybG [.int .i64 1] (10+k) _ _ Hb1.out;rw [HpF.out 1] at b3;have b4:=k3.heap Hb2.out (by simp;exact fun e=>HNe.out e.symm);have HkC:=jX (HkC.out.trans k3 (by simp;exact Hg1.out));generalize wc.setCells g1 (10+k) [.int .i64 1]=w4 at *;go_simp;go_step
      clear k3 Hb1 Hb2;refine wV ?_;go_simp;refine wV ?_;go_simp;refine yej (by rfl) _ _ _ rfl g2 (10+k) (.int .i64 (-1)) rfl rfl rfl (yes b4 _ _ (by rw [HSL.out.2.2];omega)) (by kernel_rfl) (fun K hK=>?_);obtain⟨b5,k5⟩:=ybG [.int .i64 (-1)] (10+k) _ _ b4;rw [HpL.out (-1)] at b5;have b6:=k5.heap b3 (by simp;exact fun e=>HNe.out e);have HkC:=jX (HkC.out.trans k5 (by simp;exact Hg2.out));generalize w4.setCells g2 (10+k) [.int .i64 (-1)]=w5 at *;go_simp;go_step
      clear k5 b3 b4 HpF HpL HSF HSL;generalize (⟨i.f,if k=0 then 1 else 0,if k=0 then 0 else 1⟩:Ev K)=x1 at *
      generalize (⟨i.l,if k=0 then -1 else 0,if k=0 then 0 else -1⟩:Ev K)=x2 at *
      have HL1:=jX (yhv w5 g1 0 x1 (ybS b6));have HL2:=jX (yhv w5 g2 0 x2 (ybS b5));have HQ:=jX (HQ.out.later HkC.out);clear b5 b6 hki;go_upto_region 10 with (fail)
      refine wp_region_lit ?_;refine wV ?_;go_simp;refine wX (v:=evv x1) ⟨g1,0,none⟩ (HL1.out) ?_;go_simp;refine wX (v:=evv x2) ⟨g2,0,none⟩ (HL2.out) ?_;go_simp;refine fO ?_;obtain⟨ub,gx,e3,e4,hz1,hkx,hx⟩:=EvR.pair x1 x2 w5;refine yaU (v:=.slice (some ⟨w5.heap.size,0,none⟩) 2 2) (by rfl) (ybb 180 2 #[(0,.tmp 49),(1,.tmp 50)] #[(0,evv x1),(1,evv x2)] _ rfl (by simp only [List.map_toArray,List.map_cons,List.map_nil];rfl) (build2_e x1 x2 _)) (fun K hK=>?_);rw [e3,e4];clear e3;go_simp;go_step
      obtain⟨v4,u4,hr4,ho4,hn4,_⟩:=EvR.app (ty:=180) (HQ.out.later hkx) (.inr (by simp)) hx (by have:=HLo.out;simp;omega);refine yaU (by rfl) (yik (.tmp 48) (.tmp 51) 180 _ _ _ rfl rfl rfl hr4) (fun K hK=>?_);go_simp;go_step
      clear hr4 hx hkx;have HN:=jX ho4;obtain⟨no,nc,rfl⟩:=ho4.form;clear ho4 hn4;go_wp2_with fail;go_roundw
      case rel=>exact ⟨j+1,by omega,congrArg (Value.int .i64) (by omega),by rw [HTk.out,← List.append_assoc,HOut.out];exact HN.out⟩
      case measure=>simp [intOf];omega
    obtain rfl:j=p.length:=by omega
    rw [List.take_length] at HOut;have HE:=jX (Hstep.out.trans HOut.out);obtain⟨qo,qc,rfl⟩:=HQ.out.form;clear HOut Hstep;go_wp2_with fail;go_roundw
    case rel=>exact ⟨k+1,by omega,congrArg (Value.int .i64) (by omega),by rw [HE.out];exact HQ.out⟩
    case measure=>simp [intOf];omega
  obtain rfl:k=2:=by omega
  rw [evs_two] at HO;rw [show ((2:Nat):Int)=2 from rfl]
  clear hlt hk
  have hle:(evA a++evB b).length≤40000:=by
   rw [← evs_two];show (evP 0 a++evP 1 b).length≤_
   rw [List.length_append,yfX,yfX];omega
  have HSo:=jX (fun v (h:OV_ W wo v (evA a++evB b))=>sortev_c _ W wo v h (by omega));have Hle:=jX hle;have Hsm:=jX (evs_small a b);clear hle Bgs;generalize evA a++evB b=es at *;obtain⟨oo,oc,rfl⟩:=HO.out.form;go_wp2_with fail;refine (HSo.out _ HO.out).mono ?_;rintro e w3 ⟨rfl,l,hp,hs,hr,hk3⟩;dsimp only;have hll:l.length=es.length:=hp.length_eq;have HLw:=jX (HLaw.out l hp hs);have HEv:=jX (show ∀ e∈l,(-1≤e.x∧e.x≤1)∧(-1≤e.y∧e.y≤1) from fun e he=>Hsm.out e (hp.mem_iff.1 he))
  have HE:=jX hr;have Hll:=jX (show l.length≤40000 by have:=Hle.out;omega)
  have Hk3:=jX (HkW.out.tz hk3);rw [← hll] at HE;rw [← hll];clear hp hs hr hk3 hll HSo HO HLaw HkW HR HS Hle Hsm;go_wp2_with fail;obtain⟨W5,ga,gb,eW,ega,egb,bga,bgb,hga,hgb,hgW,hkW5⟩:=al2 w3 (.cells #[.int .i64 0,.int .i64 0] 181) (.cells #[.bool false,.string ⟨#[]⟩,.bool false,.string ⟨#[]⟩,.bool false,.string ⟨#[]⟩,.bool false,.string ⟨#[]⟩,.bool false,.bool false] 114);rw [← eW];rw [egb,ega];have Hk5:=jX (Hk3.out.tz hkW5);have HKw:=jX hkW5;have HgB:=jX (show ga≠gb∧ga<W5.heap.size∧gb<W5.heap.size∧w3.heap.size≤ga∧w3.heap.size≤gb from ⟨by omega,yaa bga,yaa bgb,by omega,by omega⟩)
  rw [← bC_zero] at bgb;obtain⟨oy,oz,hHo,hHn,hHr⟩:∃ out:List (Iv K),∃ d:Unit,ybZ keep l 0 0 false ⟨kZ,false⟩ []=out∧Norm out∧∀ x,hasL out x=keep (hasL a x) (hasL b x):=⟨_,(),rfl,(HLw.out _).1,(HLw.out _).2⟩;have HRes:=jX hHo;have HNorm:=jX hHn;have HHas:=jX hHr;have Bga:=jX bga;have Bgb:=jX bgb;clear hHo hHn hHr bga bgb HLw oz hga hgb ega egb eW
  go_loopw [14,17,59] (fun ov inn c wr=>∃ k:Nat,k≤l.length∧c = .int .i64 (k:Int)∧∃ (n m:Int) (t:Bool) (frm:Bd K) (out:List (Iv K)),inn = .bool t∧(-(k:Int)≤n∧n≤k)∧(-(k:Int)≤m∧m≤k)∧out.length≤k∧OFI [ga,gb] W5 wr ov out ∧
   wr.heap[ga]? = some (.cells #[.int .i64 n,.int .i64 m] 181)∧wr.heap[gb]? = some (.cells (bC frm) 114)∧ybZ keep (l.drop k) n m t frm out=oy) (fun _ _ c _=>l.length-(intOf c).toNat)
  case atStart=>exact ⟨0,by omega,rfl,0,0,false,⟨kZ,false⟩,[],rfl,by simp,by simp,by simp,OF.nil,Bga.out,Bgb.out,by simpa using HRes.out⟩
  case round =>
   obtain⟨k,hk,rfl,n,m,t,frm,out,rfl,hn,hm,hol,hov,bga,bgb,hsw⟩:=hrel;have HO:=jX hov;have Bga:=jX bga;have Bgb:=jX bgb;have HSw:=jX hsw;have hk9:k≤40000:=by have:=Hll.out;omega
   obtain⟨vo,vc,rfl⟩:=hov.form;clear hov bga bgb hsw;by_cases hlt:k<l.length
   ·have HAt:=jX (sweepL_at (keep:=keep) hlt n m t frm out)
    obtain⟨ge,oe,rfl,hge,hat⟩:=EvR.elem HE.out k hlt;have hsm:=HEv.out l[k] (List.getElem_mem hlt);have hsz:=HKw.out.size;have hgne:=HgB.out
    have HFar:Hid (∀ g' o',g'<w3.heap.size→w3.heap[g']? = o'→wr.heap[g']? = o'):=fun g' o' hg' h=>by
     rw [HO.out.keep.block g' (by omega) (by simp;omega),HKw.out.block g' hg' (by simp)];exact h
    have HAe:=jX (fun i (h:i<l.length)=>EvR.elem HE.out i h);obtain⟨e,he⟩:∃ e,l[k]=e:=⟨_,rfl⟩;rw [he] at hat HAt hsm;obtain⟨p,hp⟩:∃ p,oe+k*12=p:=⟨_,rfl⟩;rw [hp] at hat;have HL:=jX (yhv wr ge p e (hat.keep (HFar.out ge _ hge rfl)));have HEe:=jX he;clear hat he hgne hsz;go_upto_region 20 with (fail)
    refine wp_region_lit ?_;refine wV ?_;go_simp;refine wV ?_;go_simp;refine wX (v:=evv e) ⟨ge,p,none⟩ (HL.out) ?_;go_simp;refine fO ?_;obtain⟨w1,gx,e1,e2,bgx,hgx,_,hk1⟩:=al1 wr (.cells #[.bool false,.string ⟨#[]⟩,.bool false,.string ⟨#[]⟩,.bool false,.string ⟨#[]⟩,.bool false,.string ⟨#[]⟩,.bool false,.bool false,.int .i64 0,.int .i64 0] 183);have HgX:=jX (show gx≠ga∧gx≠gb from by have:=HO.out.keep.size;have:=HgB.out;omega)
    refine yaU (v:=.pointer (some ⟨wr.heap.size,0,none⟩)) (w':=wr.alloc (.cells #[.bool false,.string ⟨#[]⟩,.bool false,.string ⟨#[]⟩,.bool false,.string ⟨#[]⟩,.bool false,.string ⟨#[]⟩,.bool false,.bool false,.int .i64 0,.int .i64 0] 183)) (by rfl) (ycL _ _ _ rfl) (fun K hK=>?_);rw [← e1,e2];clear e1;go_simp;go_step
    refine wV ?_;go_simp;refine wR gx (eC e) bgx (by exact yhp e) (by rfl) (yhE e) (fun w2 b4 k4=>?_);go_simp;clear HL;refine fO ?_;have HW2:=jX (show Keep [] wr w2 from hk1.trans k4 (by simp;omega))
    have Bgx:=jX b4;have Bga:=jX (HW2.out.heap Bga.out (by simp));have Bgb:=jX (HW2.out.heap Bgb.out (by simp));clear b4 k4 hk1 bgx;have hx10:=(ybS Bgx.out).x;have hx11:=(ybS Bgx.out).y;simp only [Nat.zero_add] at hx10 hx11;have pga:=yab Bga.out;have fga:=yae Bga.out;have lga:=yaa Bga.out;have lgx:=yaa Bgx.out;go_upto_region 21 with (fail)
    go_region
    obtain⟨w4,e4,b4,k4⟩:=st2 (x:=.int .i64 (n+e.x)) (y:=.int .i64 (m+e.y)) Bga.out;rw [← e4];have k5:=Keep.drew [] w4;generalize w4.drew=w5 at *;have HO:=jX (((HO.out.later HW2.out).set k4 (by simp;exact HgB.out.2.1)).later k5);have Bga:=jX (k5.heap b4 (by simp));have Bgb:=jX (k5.heap (k4.heap Bgb.out (by simp;exact fun h=>HgB.out.1 h.symm)) (by simp));have Bgx:=jX (k5.heap (k4.heap Bgx.out (by simp;exact HgX.out.1)) (by simp));clear e4 b4 k4 k5 hx10 hx11 pga fga lga lgx HW2 HFar hgx;have HEq:=jX hsm;obtain⟨n',hn'⟩:∃ n',n+e.x=n':=⟨_,rfl⟩;obtain⟨m',hm'⟩:∃ m',m+e.y=m':=⟨_,rfl⟩;rw [hn',hm'] at HAt;rw [hn',hm'] at Bga;have Hnm:=jX (show (-((k:Int)+1)≤n'∧n'≤(k:Int)+1)∧(-((k:Int)+1)≤m'∧m'≤(k:Int)+1) by omega)
    clear hn hm hsm hn' hm'
    have HFar:Hid (∀ g' o',g'<w3.heap.size→w3.heap[g']? = o'→w5.heap[g']? = o'):=fun g' o' hg' h=>by
     have hsz:=HKw.out.size;have hgne:=HgB.out;rw [HO.out.keep.block g' (by omega) (by simp;omega),HKw.out.block g' hg' (by simp)];exact h
    have HLx:=jX (fun mm:KW w5=>ycS _ gx 0 e.at_ (ybS (mm.k.heap Bgx.out (by simp))).bd);have HBx:=jX (bv_bC e.at_);have HFrm:=jX (fun w (h:w.heap[gb]? = some (.cells (bC frm) 114))=>ycS w gb 0 frm (bAt_box h));go_upto_region 22 with (fail)
    go_cut [94] (fun cv wx=>∃ q:Bool,cv = .bool q∧(q=true→∃ h2:k+1<l.length,e.at_=l[k+1].at_)∧(q=false→∀ h2:k+1<l.length,e.at_≠l[k+1].at_)∧Keep [] w5 wx)
    case first =>
     by_cases h2:k+1<l.length
     ·obtain⟨ge2,oe2,heq2,hge2,hat2⟩:=HAe.out (k+1) h2
      injection heq2 with heq2;injection heq2 with hq1 hq2;subst hq1 hq2;obtain⟨e2,he2⟩:∃ e2,l[k+1]=e2:=⟨_,rfl⟩;have HAe2:=jX he2;rw [he2] at hat2;obtain⟨p2,hp2⟩:∃ p2,oe+(k+1)*12=p2:=⟨_,rfl⟩;rw [hp2] at hat2;have hge5:ge<w5.heap.size:=by have:=HO.out.keep.size;have:=HKw.out.size;omega
      have HLy:=jX (fun mm:KW w5=>ycS _ ge p2 e2.at_ ((hat2.keep (HFar.out ge _ hge2 rfl)).bd.keep (mm.k.block ge hge5 (by simp))));have HCm:=jX (yiE e.at_ e2.at_);have htri:=yey e.at_ e2.at_;have hdec:decide ((k:Int)+1<(l.length:Int))=true:=by rw [decide_eq_true_iff];omega
      have HS0:Hid (cmpB e.at_ e2.at_=0→∃ h2:k+1<l.length,e.at_=l[k+1].at_):=fun h=>⟨h2,by
       rw [HAe2.out];rcases htri with ⟨h3,_⟩|⟨h3,_⟩|⟨_,g⟩
       ·rw [h] at h3;cases h3
       ·rw [h] at h3;cases h3
       exact g⟩
      have HS1:Hid (cmpB e.at_ e2.at_≠0→∀ h2:k+1<l.length,e.at_≠l[k+1].at_):=fun h _=>by
       rw [HAe2.out];rcases htri with ⟨_,g⟩|⟨_,g⟩|⟨h3,_⟩
       ·exact fun e=>by rw [e] at g;grind
       ·exact fun e=>by rw [e] at g;grind
       exact absurd h3 h
      have hc3:cmpB e.at_ e2.at_=1∨cmpB e.at_ e2.at_ = -1∨cmpB e.at_ e2.at_=0:=by rcases htri with h|h|h<;>simp [h.1]
      clear hat2 he2 HFar HAe htri HAe2;unfold bv at *;rw [show (bcells e.at_).toArray=bC e.at_ from rfl] at HCm HLx
      rw [show (bcells e2.at_).toArray=bC e2.at_ from rfl] at HCm HLy
      generalize bC e.at_=X at *;generalize bC e2.at_=Y at *;generalize cmpB e.at_ e2.at_=c at *;rcases hc3 with rfl|rfl|rfl
      ·have HS:=jX (HS1.out (by decide))
       clear HS0 HS1;have Q1:Hid (∀ m:KW w5,Calls prog 76 #[.agg X,.agg Y] (Wk w5 m) fun e w'=>e = .returned (.int .i64 (1))∧∃ m,w'=Wk w5 m):=fun m=>qk m (HCm.out _);refine yad (by kernel_rfl) (by kernel_rfl) ?_
       repeat (first
        | go_big_quiet_skip
        | (go_big_quiet_want;first
         | (refine yaH _ _ _ (.agg X) rfl rfl (by rintro _ ⟨m,rfl⟩;exact HLx.out m) ?_;go_simp;go_big_quiet_on)|(refine yaH _ _ _ (.agg Y) rfl rfl (by rintro _ ⟨m,rfl⟩;exact HLy.out m) ?_;go_simp;go_big_quiet_on)
         | (go_big_quiet_op;first|go_big_quiet_on|go_big_quiet_call (first
          | (go_at_call 76;with_reducible exact (Q1).out _)))))
       refine wpQuiet_nil ?_;rintro w6 ⟨⟨_,hk_w6⟩,rfl⟩;have Hk6:=jX hk_w6;clear hk_w6 Q1 HLx HLy;go_wp2_with fail;go_meet
       exact ⟨false,rfl,(fun h=>by cases h),fun _=>HS.out,Hk6.out⟩
      ·have HS:=jX (HS1.out (by decide))
       clear HS0 HS1;have Q1:Hid (∀ m:KW w5,Calls prog 76 #[.agg X,.agg Y] (Wk w5 m) fun e w'=>e = .returned (.int .i64 (-1))∧∃ m,w'=Wk w5 m):=fun m=>qk m (HCm.out _);refine yad (by kernel_rfl) (by kernel_rfl) ?_
       repeat (first
        | go_big_quiet_skip
        | (go_big_quiet_want;first
         | (refine yaH _ _ _ (.agg X) rfl rfl (by rintro _ ⟨m,rfl⟩;exact HLx.out m) ?_;go_simp;go_big_quiet_on)|(refine yaH _ _ _ (.agg Y) rfl rfl (by rintro _ ⟨m,rfl⟩;exact HLy.out m) ?_;go_simp;go_big_quiet_on)
         | (go_big_quiet_op;first|go_big_quiet_on|go_big_quiet_call (first
          | (go_at_call 76;with_reducible exact (Q1).out _)))))
       refine wpQuiet_nil ?_;rintro w6 ⟨⟨_,hk_w6⟩,rfl⟩;have Hk6:=jX hk_w6;clear hk_w6 Q1 HLx HLy;go_wp2_with fail;go_meet
       exact ⟨false,rfl,(fun h=>by cases h),fun _=>HS.out,Hk6.out⟩
      have HS:=jX (HS0.out rfl);clear HS0 HS1;have Q1:Hid (∀ m:KW w5,Calls prog 76 #[.agg X,.agg Y] (Wk w5 m) fun e w'=>e = .returned (.int .i64 (0))∧∃ m,w'=Wk w5 m):=fun m=>qk m (HCm.out _);refine yad (by kernel_rfl) (by kernel_rfl) ?_
      repeat (first
       | go_big_quiet_skip
       | (go_big_quiet_want;first
        | (refine yaH _ _ _ (.agg X) rfl rfl (by rintro _ ⟨m,rfl⟩;exact HLx.out m) ?_;go_simp;go_big_quiet_on)|(refine yaH _ _ _ (.agg Y) rfl rfl (by rintro _ ⟨m,rfl⟩;exact HLy.out m) ?_;go_simp;go_big_quiet_on)
        | (go_big_quiet_op;first|go_big_quiet_on|go_big_quiet_call (first
         | (go_at_call 76;with_reducible exact (Q1).out _)))))
      refine wpQuiet_nil ?_;rintro w6 ⟨⟨_,hk_w6⟩,rfl⟩;have Hk6:=jX hk_w6;clear hk_w6 Q1 HLx HLy;go_wp2_with fail;go_meet
      exact ⟨true,rfl,fun _=>HS.out,(fun h=>by cases h),Hk6.out⟩
     have hdec:decide ((k:Int)+1<(l.length:Int))=false:=by rw [decide_eq_false_iff_not];omega
     have HS:=jX (show ∀ h2:k+1<l.length,e.at_≠l[k+1].at_ from fun h=>absurd h h2)
     clear h2 HLx HFar HAe;refine yad (by kernel_rfl) (by kernel_rfl) ?_
     repeat (first
      | go_big_quiet_skip
      | (go_big_quiet_want;first
       | fail
       | (go_big_quiet_op;go_simp;go_big_quiet_on)
       | (go_big_quiet_op;go_big_quiet_call (first
        | fail))))
     refine wpQuiet_nil ?_;rintro w6 ⟨⟨_,hk_w6⟩,rfl⟩;have Hk6:=jX hk_w6;clear hk_w6;go_wp2_with fail;go_meet
     exact ⟨false,rfl,(fun h=>by cases h),fun _=>HS.out,Hk6.out⟩
    case rest =>
     obtain⟨q,rfl,hq1,hq0,hk6⟩:=hcut;have HO:=jX (HO.out.later hk6);have Bga:=jX (hk6.heap Bga.out (by simp));have Bgb:=jX (hk6.heap Bgb.out (by simp));have Bgx:=jX (hk6.heap Bgx.out (by simp));clear hk6 HLx HFar HAe;cases q with
     | true =>
      obtain⟨h2,he2⟩:=hq1 rfl;have HSt:=jX (HAt.out.1 h2 he2);clear hq1 hq0 he2 HAt;go_wp2_with fail;go_roundw
      case rel=>exact ⟨k+1,by omega,congrArg (Value.int .i64) (by omega),n',m',t,frm,out,rfl,by have:=Hnm.out;omega,by have:=Hnm.out;omega,by omega,HO.out,Bga.out,Bgb.out,by rw [← HSt.out];exact HSw.out⟩
      case measure=>simp [intOf];omega
     | false =>
      have HSt:=jX (HAt.out.2 (hq0 rfl));clear hq1 hq0 HAt;have hnm:=Hnm.out;have eg:=Heg.out;have hN:=jX (show ycC keep n' m'=keep (decide (0<n')) (decide (0<m')) from rfl)
      rw [hN.out] at HSt;have HKc:=jX (HKp.out (decide (0<n')) (decide (0<m')));have pga:=yab Bga.out;generalize keep (decide (0<n')) (decide (0<m'))=q at *;go_upto_region 23 with (fail)
      refine wp_region_lit ?_;refine wV ?_;go_simp;refine wV ?_;go_simp;refine wV ?_;go_simp;refine wV ?_;go_simp;refine wV ?_;go_simp;refine wV ?_;go_simp;refine wV ?_;go_simp;refine wpList_plain (by rfl) (fun K hK=>?_);refine yag g #[.bool (decide (0<n')),.bool (decide (0<m'))] (by go_simp) ?_;refine (HKc.out _).mono ?_;rintro e' w7 ⟨rfl,hk7⟩;refine ⟨_,rfl,?_⟩;go_simp;go_step
      clear pga;have HO:=jX (HO.out.later hk7);have Bga:=jX (hk7.heap Bga.out (by simp));have Bgb:=jX (hk7.heap Bgb.out (by simp));have Bgx:=jX (hk7.heap Bgx.out (by simp));clear hk7 HKc eg hN hnm;cases q with
      | true =>
       cases t with
       | true =>
        go_wp2_with fail;go_roundw
        case rel=>exact ⟨k+1,by omega,congrArg (Value.int .i64) (by omega),n',m',true,frm,out,rfl,by have:=Hnm.out;omega,by have:=Hnm.out;omega,by (try simp);omega,HO.out,Bga.out,Bgb.out,HSt.out.symm.trans HSw.out⟩
        case measure=>simp [intOf];omega
       | false =>
        go_upto_region 25 with (fail)
        refine wp_region_lit ?_;refine wV ?_;go_simp;refine wX (v:=bv e.at_) ⟨gx,0,none⟩ ((ycS _ gx 0 e.at_ (ybS Bgx.out).bd)) ?_;go_simp;refine wR gb (bC e.at_) Bgb.out (by exact bd_size e.at_) (by rfl) (bd_ones e.at_) (fun w8 b8 k8=>?_);go_simp;refine fO ?_;have HO:=jX (HO.out.set k8 (by simp;exact HgB.out.2.2.1));have Bga:=jX (k8.heap Bga.out (by simp;exact HgB.out.1));have Bgb:=jX b8;clear b8 k8;go_wp2_with fail;go_roundw
        case rel=>exact ⟨k+1,by omega,congrArg (Value.int .i64) (by omega),n',m',true,e.at_,out,rfl,by have:=Hnm.out;omega,by have:=Hnm.out;omega,by (try simp);omega,HO.out,Bga.out,Bgb.out,HSt.out.symm.trans HSw.out⟩
        case measure=>simp [intOf];omega
      | false =>
       cases t with
       | true =>
        go_upto_region 27 with (fail)
        refine wp_region_lit ?_;refine wV ?_;go_simp;refine wX (v:=bv frm) ⟨gb,0,none⟩ ((ycS _ gb 0 frm (bAt_box Bgb.out))) ?_;go_simp;refine wV ?_;go_simp;refine wX (v:=bv e.at_) ⟨gx,0,none⟩ ((ycS _ gx 0 e.at_ (ybS Bgx.out).bd)) ?_;go_simp;refine wpList_plain (by rfl) (fun K hK=>?_);refine yag 164 #[bv frm,bv e.at_] (by go_simp) ?_;refine (between_c frm e.at_ _).mono ?_;rintro e' w8 ⟨rfl,hk8⟩;refine ⟨_,rfl,?_⟩;go_simp;go_step
        obtain⟨ub,gy,e3,e4,hz1,hkx,hx⟩:=IvR.single ⟨frm,e.at_⟩ w8;refine yaU (v:=.slice (some ⟨w8.heap.size,0,none⟩) 1 1) (by rfl) (ybb 22 1 #[(0,.tmp 121)] #[(0,iv ⟨frm,e.at_⟩)] _ rfl (by simp only [List.map_toArray,List.map_cons,List.map_nil];rfl) (ybu ⟨frm,e.at_⟩ _)) (fun K hK=>?_);rw [e3,e4];clear e3;go_simp;go_step
        have hk9':=hk8.tz hkx;obtain⟨v9,u9',hr9,ho9,hkeep9⟩:=OFI.app (ty:=22) (HO.out.later hk9') (by simp) hx (by simp;omega);refine yaU (by rfl) (yik (.tmp 117) (.tmp 122) 22 _ _ _ rfl rfl rfl hr9) (fun K hK=>?_);go_simp;go_step
        clear hr9 hx hkx;have Bga:=jX (hkeep9 ga _ HgB.out.2.1 (hk9'.heap Bga.out (by simp)));have Bgb:=jX (hkeep9 gb _ HgB.out.2.2.1 (hk9'.heap Bgb.out (by simp)));have HO9:=jX ho9;obtain⟨no,nc,rfl⟩:=ho9.form;clear ho9 hkeep9 hk9' hk8;go_wp2_with fail;go_roundw
        case rel=>exact ⟨k+1,by omega,congrArg (Value.int .i64) (by omega),n',m',false,frm,(out++([⟨frm,e.at_⟩]:List (Iv K))),rfl,by have:=Hnm.out;omega,by have:=Hnm.out;omega,by (try simp);omega,HO9.out,Bga.out,Bgb.out,HSt.out.symm.trans HSw.out⟩
        case measure=>simp [intOf];omega
       | false =>
        go_wp2_with fail;go_roundw
        case rel=>exact ⟨k+1,by omega,congrArg (Value.int .i64) (by omega),n',m',false,frm,out,rfl,by have:=Hnm.out;omega,by have:=Hnm.out;omega,by (try simp);omega,HO.out,Bga.out,Bgb.out,HSt.out.symm.trans HSw.out⟩
        case measure=>simp [intOf];omega
   obtain rfl:k=l.length:=by omega
   have hfin:out=oy:=by
    have:=HSw.out;rw [List.drop_length] at this;exact this
   have HF:=jX hfin;clear hfin;go_wp2_with fail;go_ret
   exact ⟨_,oy,rfl,by rw [← HF.out];exact HO.out.read,HNorm.out,HHas.out,Hk5.out.trans HO.out.keep (by simp;have:=HgB.out;have:=Hk3.out.size;omega),tyI_of HO.out⟩
end Go.Proofs.YtpgffjjpiafhpaaGreatDoor
