/- Parts of a proof: Ff Ky La Vl Fd Fi Fk Fl Vk Fm Fn Fo We. -/
import Derived.Lib.SliceRun
import Derived.Test.YtpgffjjpiafhpaaGreatDoorJ30
import Derived.Test.YtpgffjjpiafhpaaGreatDoorJ06
import Derived.Test.YtpgffjjpiafhpaaGreatDoorJ08
import Derived.Test.YtpgffjjpiafhpaaGreatDoorJ19
import Derived.Test.YtpgffjjpiafhpaaGreatDoorJ10
import Derived.Test.YtpgffjjpiafhpaaGreatDoorJ16
import Derived.Test.YtpgffjjpiafhpaaGreatDoorJ28
import Derived.Test.YtpgffjjpiafhpaaGreatDoorJ26
import Derived.Test.YtpgffjjpiafhpaaGreatDoorJ29
import Derived.Test.YtpgffjjpiafhpaaGreatDoorJ23
import Derived.Test.YtpgffjjpiafhpaaGreatDoorJ25
import Derived.Test.YtpgffjjpiafhpaaGreatDoorJ01
import Derived.Test.YtpgffjjpiafhpaaGreatDoorJ13
import Derived.Test.YtpgffjjpiafhpaaGreatDoorJ03
import Derived.Test.YtpgffjjpiafhpaaGreatDoorJ02
set_option linter.unusedVariables false
set_option linter.unusedSimpArgs false
set_option linter.unusedSectionVars false
set_option maxRecDepth 100000
set_option maxHeartbeats 8000000
namespace Go.Proofs.YtpgffjjpiafhpaaGreatDoor
open Go.RowKit Tryz
section
open Go.RowKit Go.Lib
theorem QMake_c (a b:Int) (ha:Fit 100000000000 a) (hb:Fit 100000000000 b) (h0:0<b) (w:World) :
  Calls Tryz.prog 110 #[zv a,zv b] w fun e w'=>e = .returned (.tuple #[rv (Rat.divInt a b),.int .i64 0])∧Keep [] w w':=by
 have H1:=jX (Sign_c b);rw [show zsgn b=1 by unfold zsgn;rw [if_neg (by omega),if_neg (by omega)]] at H1
 have H2:=jX (ydt a b ha hb h0);unfold rv zv at *;generalize sgB (Rat.divInt a b).num=nr at *;generalize mgS (Rat.divInt a b).num=sr at *;generalize dnS (Rat.divInt a b).den=dr at *;generalize sgB (a)=na at *;generalize mgS (a)=sa at *;generalize sgB (b)=nb at *;generalize mgS (b)=sb at *;clear ha hb h0;go_enter Tryz.func110,Tryz.ntmps110
 go_upto_region 1 with (fail)
 obtain⟨W,ga,gb,gc,hW,ega,egb,egc,Bga,Bgb,Bgc,hga,hgb,hgc,hgW,HkW⟩:=al3h w (.cells #[.bool na,.string sa] 26) (.cells #[.bool nb,.string sb] 26) (.cells #[.bool false,.string ⟨#[]⟩,.bool false,.string ⟨#[]⟩] 28);rw [← hW];try rw [egc]
 try rw [egb]
 try rw [ega]
 clear hW ega egb egc;obtain⟨pgb,fgb,lgb⟩:=jQ Bgb;go_wp2_with fail;refine (H1.out _).mono ?_;rintro e w1 ⟨rfl,hk1⟩;dsimp only;clear pgb fgb lgb;replace Bga:=jH hk1 Bga;replace Bgb:=jH hk1 Bgb;replace Bgc:=jH hk1 Bgc;replace HkW:=jX (HkW.out.tz hk1);clear hk1;go_upto_region 3 with (fail)
 obtain⟨pga,fga,lga⟩:=jQ Bga;obtain⟨pgb,fgb,lgb⟩:=jQ Bgb;go_wp2_with fail;refine (H2.out _).mono ?_;rintro e w2 ⟨rfl,hk2⟩;dsimp only;clear pga fga lga pgb fgb lgb;replace Bga:=jH hk2 Bga;replace Bgb:=jH hk2 Bgb;replace Bgc:=jH hk2 Bgc;replace HkW:=jX (HkW.out.tz hk2);clear hk2;obtain⟨pgc,fgc,lgc⟩:=jQ Bgc;go_wp2_with fail;refine bodyPost_ret (v:=.tuple #[.agg #[.bool nr,.string sr,.bool false,.string dr],.int .i64 0]) ?_ rfl ⟨rfl,by repeat (first|(with_reducible exact HkW.out)|(refine Keep.sP ?_ _ _ _ (by omega))|(refine Keep.aP ?_ _)|(refine Keep.dP ?_))⟩;rw [results_cell_tmp rfl];go_simp
theorem FromRat_c (q:Rat) (h:FitQ 100000 q) (w:World):Calls Tryz.prog 84 #[rv q] w fun e w'=>e = .returned (kv (kQ q h))∧Keep [] w w':=by
 have HB:=jX (ybE q h);have hC:=kQ_C q h;have e1:kv (kQ q h) = .agg (kC (kQ q h)):=rfl;rw [e1];rw [hC] at *;unfold rv at *;generalize sgB (q).num=nr at *;generalize mgS (q).num=sr at *;generalize dnS (q).den=dr at *;clear hC e1;go_enter Tryz.func84,Tryz.ntmps84
 go_upto_region 1 with (fail)
 obtain⟨W,ga,gb,hW,ega,egb,Bga,Bgb,hga,hgb,hgW,HkW⟩:=al2h w (.cells #[.bool nr,.string sr,.bool false,.string dr] 28) (.cells #[.bool false,.string ⟨#[]⟩,.bool false,.string ⟨#[]⟩,.bool false,.string ⟨#[]⟩,.bool false,.string ⟨#[]⟩,.bool false] 30);rw [← hW];try rw [egb]
 try rw [ega]
 clear hW ega egb;obtain⟨pga,fga,lga⟩:=jQ Bga;obtain⟨pgb,fgb,lgb⟩:=jQ Bgb;go_wp2_with fail;refine bodyPost_ret (v:=.agg #[.bool nr,.string sr,.bool false,.string dr,.bool false,.string ⟨#[]⟩,.bool false,.string ⟨#[]⟩,.bool false]) ?_ rfl ⟨rfl,by repeat (first|(with_reducible exact HkW.out)|(refine Keep.sP ?_ _ _ _ (by omega))|(refine Keep.aP ?_ _)|(refine Keep.dP ?_))⟩;rw [yac rfl];go_simp
end
section
open Classical
structure RawI where
 f:RawR
 t:RawR
 o:Bool
 c:Bool
def RawI.cells (r:RawI):List Value:=r.f.cells++r.t.cells++[.bool r.o,.bool r.c]
def RawI.C (r:RawI):Array Value:=r.cells.toArray
def RawI.v (r:RawI):Value:=.agg r.C
def RawI.of (i:Iv K):RawI:=⟨RawR.of i.f.pt.1,RawR.of i.l.pt.1,i.f.beh,!i.l.beh⟩
theorem RawI.of_inj {i j:Iv K} (h:RawI.of i=RawI.of j):i=j:=by
 unfold RawI.of at h;injection h with h1 h2 h3 h4;have e1:i.f.pt=j.f.pt:=Subtype.ext (RawR.of_inj h1);have e2:i.l.pt=j.l.pt:=Subtype.ext (RawR.of_inj h2);have e4:i.l.beh=j.l.beh:=by simpa using h4
 obtain⟨⟨a,b⟩,⟨c,d⟩⟩:=i;obtain⟨⟨a',b'⟩,⟨c',d'⟩⟩:=j;dsimp only at *;subst e1 e2 h3 e4;rfl
def RawI.sz (r:RawI) (k:Nat):Prop:=r.f.sz k∧r.t.sz k
theorem yei (x:RawR):x.cells.length=9:=rfl
def RIAt (w:World) (b o:Nat) (r:RawI):Prop:=∀ k v,r.cells[k]? = some v→w.cell? ⟨b,o+k,none⟩=some v
theorem RIAt.frm {w:World} {b o:Nat} {r:RawI} (h:RIAt w b o r):∀ k v,r.f.cells[k]? = some v→w.cell? ⟨b,o+k,none⟩=some v:=fun k v hk=>by
 refine h k v ?_;have hl:k<9:=by have:=(List.getElem?_eq_some_iff.1 hk).1;rwa [yei] at this
 unfold RawI.cells;rw [List.append_assoc,List.getElem?_append_left (by rw [yei];exact hl)];exact hk
theorem RIAt.upto {w:World} {b o:Nat} {r:RawI} (h:RIAt w b o r):∀ k v,r.t.cells[k]? = some v→w.cell? ⟨b,o+9+k,none⟩=some v:=fun k v hk=>by
 have hl:k<9:=by have:=(List.getElem?_eq_some_iff.1 hk).1;rwa [yei] at this
 have:=h (9+k) v (by
  unfold RawI.cells;rw [List.append_assoc,List.getElem?_append_right (by rw [yei];omega),yei,List.getElem?_append_left (by rw [yei];omega),Nat.add_sub_cancel_left]
  exact hk)
 rwa [← Nat.add_assoc] at this
end
section
open Classical
noncomputable def chkL:Option (Iv K)→List RawI→Int
 | _,[]=>0
 | p, r :: l => if h : ∃ i : Iv K, r = RawI.of i then
   (if h.choose.f<h.choose.l then
    (match p with
    | none=>chkL (some h.choose) l
    | some b=>if h.choose.f.pt<b.l.pt∨h.choose.f<b.l then 11 else if b.l=h.choose.f then 5 else chkL (some h.choose) l)
   else 10)
  else 5
theorem yjj {i:Iv K} (h:i.f<i.l) (l:List RawI):chkL none (RawI.of i :: l)=chkL (some i) l:=by
 have hx:∃ j:Iv K,RawI.of i=RawI.of j:=⟨i,rfl⟩;have he:hx.choose=i:=(RawI.of_inj hx.choose_spec).symm;rw [chkL,dif_pos hx];simp only [he];rw [if_pos h]
theorem chkL_next {i b:Iv K} (h:i.f<i.l) (l:List RawI):chkL (some b) (RawI.of i :: l)=if i.f.pt<b.l.pt∨i.f<b.l then 11 else if b.l=i.f then 5 else chkL (some i) l:=by
 have hx:∃ j:Iv K,RawI.of i=RawI.of j:=⟨i,rfl⟩;have he:hx.choose=i:=(RawI.of_inj hx.choose_spec).symm;rw [chkL,dif_pos hx];simp only [he];rw [if_pos h]
abbrev RIR:=RowE (fun r:RawI=>r.cells)
theorem rawi_len (r:RawI):r.cells.length=20:=rfl
theorem RIR.elem {w:World} {a:Option Addr} {n c:Nat} {l:List RawI} (h:RIR w (.slice a n c) l) (i:Nat) (hi:i<l.length):∃ g o,a=some ⟨g,o,none⟩∧g<w.heap.size∧RIAt w g (o+i*20) l[i]:=RowE.elem rawi_len h i hi
def RIQ (w:World) (sv:Value) (l:List RawI):Prop:=∃ a c,sv = .slice a l.length c∧(l=[]∨RIR w sv l)
theorem RIQ.elem {w:World} {a:Option Addr} {n c:Nat} {l:List RawI} (h:RIQ w (.slice a n c) l) (i:Nat) (hi:i<l.length):∃ g o,a=some ⟨g,o,none⟩∧g<w.heap.size∧RIAt w g (o+i*20) l[i]:=by
 obtain⟨_,_,_,h⟩:=h;rcases h with rfl|h
 ·exact absurd hi (Nat.not_lt_zero _)
 exact h.elem i hi
theorem RowE.laterB {α:Type} {enc:α→List Value} {w w':World} {sv:Value} {l:List α} (h:RowE enc w sv l) (hb:Below w.heap.size w w'):RowE enc w' sv l:=by
 rcases h with h|⟨g,o,c,rfl,hc,hg,hx⟩
 ·exact .inl h
 refine .inr ⟨g,o,c,rfl,hc,Nat.lt_of_lt_of_le hg hb.size,fun i v hv=>?_⟩;rw [World.cell?_of_block (hb.block g hg)];exact hx i v hv
theorem RIQ.laterB {w w':World} {sv:Value} {l:List RawI} (h:RIQ w sv l) (hb:Below w.heap.size w w'):RIQ w' sv l:=by
 obtain⟨a,c,h1,h2⟩:=h;exact ⟨a,c,h1,h2.imp id (fun h=>h.laterB hb)⟩
theorem RIQ.later {w w':World} {sv:Value} {l:List RawI} (h:RIQ w sv l) (hk:Keep [] w w'):RIQ w' sv l:=h.laterB hk.bz
def ChkAt (l:List RawI) (k:Nat) (p:Option (Iv K)):Prop:=chkL none l=chkL p (l.drop k)∧(k=0→p=none)∧(∀ j (hj:j<l.length),k=j+1→∃ b:Iv K,p=some b∧l[j]=RawI.of b)
theorem ChkAt.start (l:List RawI):ChkAt l 0 none:=⟨rfl,fun _=>rfl,fun j _ h=>by omega⟩
theorem ChkAt.zero {l:List RawI} {p:Option (Iv K)} (h:ChkAt l 0 p) (hk:0<l.length) {i:Iv K} (hi:l[0]=RawI.of i) (hv:i.f<i.l):ChkAt l 1 (some i):=by
 have hp:=h.2.1 rfl;subst hp;refine ⟨?_,fun h=>by omega,fun j hj h=>?_⟩
 ·have h1:=h.1
  rw [List.drop_eq_getElem_cons hk,hi,yjj hv] at h1;exact h1
 obtain rfl:j=0:=by omega
 exact ⟨i,rfl,hi⟩
theorem ChkAt.next {l:List RawI} {j:Nat} {p:Option (Iv K)} (h:ChkAt l (j+1) p) (hk:j+1<l.length) {i:Iv K} (hi:l[j+1]=RawI.of i) (hv:i.f<i.l) :
  ∃ b:Iv K,l[j]'(by omega)=RawI.of b∧((i.f.pt<b.l.pt∨i.f<b.l)→chkL none l=11)∧(¬ (i.f.pt<b.l.pt∨i.f<b.l)→b.l=i.f→chkL none l=5)∧(¬ (i.f.pt<b.l.pt∨i.f<b.l)→b.l≠i.f→ChkAt l (j+2) (some i)):=by
 obtain⟨b,rfl,hb⟩:=h.2.2 j (by omega) rfl;have h1:=h.1;rw [List.drop_eq_getElem_cons hk,hi,chkL_next hv] at h1;refine ⟨b,hb,fun ho=>by rw [h1,if_pos ho],fun ho he=>by rw [h1,if_neg ho,if_pos he],fun ho he=>⟨by rw [h1,if_neg ho,if_neg he],fun h=>by omega,fun j' hj' h=>?_⟩⟩;obtain rfl:j'=j+1:=by omega
 exact ⟨i,rfl,hi⟩
theorem ChkAt.done {l:List RawI} {p:Option (Iv K)} (h:ChkAt l l.length p):chkL none l=0:=by
 rw [h.1,List.drop_length];rfl
end
section
open Go.RowKit Go.Sort Go.Shelf
section
variable {P:Program} {ρ:Ren} {α:Type} [Inhabited α] {enc:α→List Value} {k:Nat}
end
instance:Inhabited K:=⟨kZ⟩
end
section
open Classical
def Ls (w:World) (L:List (Value × List (Iv K))):Prop:=∀ p∈L,IvR w p.1 p.2∧Norm p.2∧p.2.length≤10000
section
variable {w w':World} {L M:List (Value × List (Iv K))} {v u:Value} {a b l:List (Iv K)}
theorem Ls.nil (w:World):Ls w []:=fun _ h=>by cases h
theorem Ls.grow (h:Ls w L) (hb:Below w.heap.size w w'):Ls w' L:=fun p hp=>⟨(h p hp).1.laterB hb,(h p hp).2⟩
theorem Ls.cons (h:Ls w L) (hv:IvR w v l) (hn:Norm l) (h9:l.length≤10000):Ls w ((v,l) :: L):=fun p hp=>by
 rcases List.mem_cons.1 hp with rfl|hp
 ·exact ⟨hv,hn,h9⟩
 exact h p hp
theorem Ls.sub (h:Ls w L) (hs:∀ p∈M,p∈L):Ls w M:=fun p hp=>h p (hs p hp)
theorem Ls.val (h:Ls w L) (hv:(v,a)∈L):∀ i∈a,i.f<i.l:=(h _ hv).2.1.val
end
structure OB {α:Type} (enc:α→List Value) (e:TypeId) (k:Nat) (w0 w:World) (v:Value) (l:List α):Prop where
 row:w.ownsRow 0 e k v l.length (l.flatMap enc)
 base:∀ g,v.ownBlock=some g→w0.heap.size≤g
 keep:Below w0.heap.size w0 w
section
variable {α:Type} {enc:α→List Value} {e:TypeId} {k:Nat} {w0 w w':World} {v:Value} {l:List α}
theorem OB.nil (w:World):OB enc e k w w (.slice none 0 0) []:=⟨⟨by simp,.inl ⟨rfl,rfl⟩⟩,by simp [Value.ownBlock],Below.refl _ _⟩
theorem OB.later (h:OB enc e k w0 w v l) (hb:Below w.heap.size w w'):OB enc e k w0 w' v l:=by
 refine ⟨⟨h.row.1,?_⟩,h.base,h.keep.trans (Below.mono hb h.keep.size)⟩;rcases h.row.2 with hn|⟨g,cap,cur,hv,hb1,hg,rest⟩
 ·exact .inl hn
 exact .inr ⟨g,cap,cur,hv,hb1,(hb.block g (yaa hg)).trans hg,rest⟩
theorem OB.oe (h:OB enc e k w0 w v l):∃ b,b.heap.size=w0.heap.size∧OE enc e k b w v l∧∀ w' v' l',OE enc e k b w' v' l'→OB enc e k w0 w' v' l':=by
 refine ⟨{ w with heap:=w0.heap },rfl,⟨h.row,h.base,⟨rfl,rfl,rfl,h.keep.size,Nat.le_refl _,fun i hi _=>h.keep.block i hi⟩⟩,fun w' v' l' h'=>⟨h'.row,h'.base,?_⟩⟩;have hk:=h'.keep;exact ⟨hk.os.trans h.keep.os,hk.tape.trans h.keep.tape,hk.output.trans h.keep.output,hk.size,fun i hi=>hk.block i hi (by simp)⟩
theorem OB.form (h:OB enc e k w0 w v l):∃ po pc,v = .slice po l.length pc:=ydS h.row
theorem OB.read (h:OB enc e k w0 w v l):RowE enc w v l:=by
 obtain⟨b,_,h1,_⟩:=h.oe;exact h1.read
end
end
section
open Classical
abbrev OBI (w0 w:World) (v:Value) (l:List (Iv K)):Prop:=OB (fun i:Iv K=>icells i) 32 20 w0 w v l
theorem OBI.app {w0 w:World} {v:Value} {l:List (Iv K)} (t:Iv K) (h:OBI w0 w v l) (h9:l.length≤1000000) :
  ∃ u,w.alloc (.cells (iC t) 32)=u∧∃ v4 u4,(Builtin.append_ #[22,22] 22 #[v,.slice (some ⟨w.heap.size,0,none⟩) 1 1]).run prog u = .ok v4 u4∧OBI w0 u4 v4 (l++[t]):=by
 obtain⟨ub,gx,e3,e4,hz1,hkx,hx⟩:=IvR.single t w;obtain⟨b,hbs,hoe,hback⟩:=(h.later hkx.bz).oe;obtain⟨v4,u4,hr4,ho4,hn4,_⟩:=IvR.app (ty:=22) hoe (.inr (by simp)) hx (by simp;omega);rw [e4];exact ⟨ub,e3,v4,u4,hr4,hback _ _ _ ho4⟩
end
section
open Classical
structure StV where
 a:Option Addr
 c:Nat
 s:St
def StV.v (x:StV):Value:=.slice x.a x.s.d.length x.c
def StV.cells (x:StV):List Value:=[x.v,.bool (sgB x.s.g.num),.string (mgS x.s.g.num),.bool false,.string (dnS x.s.g.den),.bool (sgB x.s.a.num),.string (mgS x.s.a.num),.bool false,.string (dnS x.s.a.den),.bool (sgB x.s.b.num),.string (mgS x.s.b.num),.bool false,.string (dnS x.s.b.den)]
def StV.C (x:StV):Array Value:=x.cells.toArray
theorem StV.len (x:StV):x.cells.length=13:=rfl
theorem StV.one (x:StV):∀ v∈x.cells,v.oneCell'=true:=by
 intro v hv;simp only [StV.cells,List.mem_cons,List.not_mem_nil,or_false] at hv;rcases hv with rfl|rfl|rfl|rfl|rfl|rfl|rfl|rfl|rfl|rfl|rfl|rfl|rfl<;>rfl
def StR (w:World) (sv:Value) (l:List StV):Prop:=RowE StV.cells w sv l∧Ls w (l.map fun x=>(x.v,x.s.d))
def stS (l:List StV):List St:=l.map (·.s)
theorem StR.grow {w w':World} {sv:Value} {l:List StV} (h:StR w sv l) (hb:Below w.heap.size w w'):StR w' sv l:=⟨h.1.laterB hb,h.2.grow hb⟩
theorem StR.form {w:World} {sv:Value} {l:List StV} (h:StR w sv l):∃ a c,sv = .slice a l.length c:=by
 obtain⟨a,c,h,_⟩:=h.1.form;exact ⟨a,c,h⟩
theorem StR.ls {w:World} {sv:Value} {l:List StV} (h:StR w sv l) {x:StV} (hx:x∈l):Ls w [(x.v,x.s.d)]:=h.2.sub fun p hp=>by
 rw [List.mem_singleton] at hp;subst hp;exact List.mem_map.2 ⟨x,hx,rfl⟩
def StAt (w:World) (b o:Nat) (x:StV):Prop:=∀ k v,x.cells[k]? = some v→w.cell? ⟨b,o+k,none⟩=some v
theorem StR.elem {w:World} {a:Option Addr} {n c:Nat} {l:List StV} (h:StR w (.slice a n c) l) (i:Nat) (hi:i<l.length):∃ g o,a=some ⟨g,o,none⟩∧g<w.heap.size∧StAt w g (o+i*13) l[i]:=h.1.elem StV.len i hi
theorem stAt_box {w:World} {g:Nat} {x:StV} {t:TypeId} (h:w.heap[g]? = some (.cells x.C t)):StAt w g 0 x:=fun k v hk=>by
 rw [Nat.zero_add,yab h];exact (List.getElem?_toArray ..).trans hk
theorem StAt.keep {w w':World} {b o:Nat} {x:StV} (h:StAt w b o x) (hb:w'.heap[b]? = w.heap[b]?):StAt w' b o x:=fun k v hk=>(World.cell?_of_block hb).trans (h k v hk)
section
variable {w:World} {b o:Nat} {x:StV} (h:StAt w b o x)
include h
end
end
section
open Classical
theorem q_size:(prog.info? 28).map (·.size)=some 4:=by
 obtain⟨ie,hie,hs⟩:=infoRat;rw [hie];exact congrArg some hs
end
theorem IvR.laterBox {u u':World} {v:Value} {l:List (Iv K)} {g:Nat} {cs:Array Value} {t:TypeId} (h:IvR u v l) (hb:u.heap[g]? = some (.cells cs t)) (hs:cs.size<20) (hk:Keep [g] u u'):IvR u' v l:=by
 rcases h with h|⟨g',o,c,rfl,hc,hg,hx⟩
 ·exact .inl h
 refine .inr ⟨g',o,c,rfl,hc,Nat.lt_of_lt_of_le hg hk.size,fun i v hv=>?_⟩;by_cases hgg:g'=g
 ·subst hgg
  exfalso;cases l with
  | nil=>simp at hv
  | cons x r =>
   have:=hx 19 (.bool (!x.l.beh)) (by rw [List.flatMap_cons,List.getElem?_append_left (by rw [ybI];decide)];rfl);rw [yab hb] at this;have:=(Array.getElem?_eq_some_iff.1 this).1;omega
 rw [World.cell?_of_block (hk.block g' hg (by simp;exact hgg))];exact hx i v hv
def MQ (W u:World) (l:List (Value × List (Iv K))) (bs:List (Nat × Obj)):Prop:=Keep [] W u∧(∀ p∈l,IvR u p.1 p.2)∧∀ b∈bs,u.heap[b.1]? = some b.2∧W.heap.size≤b.1
theorem MQ.start {W u:World} (h:Keep [] W u):MQ W u [] []:=⟨h,by simp,by simp⟩
theorem MQ.move {W u u':World} {l:List (Value × List (Iv K))} {bs:List (Nat × Obj)} (h:MQ W u l bs) (hk:Keep [] u u'):MQ W u' l bs :=
 ⟨h.1.tz hk,fun p hp=>(h.2.1 p hp).later hk,fun b hb=>⟨hk.heap (h.2.2 b hb).1 (by simp),(h.2.2 b hb).2⟩⟩
theorem MQ.add {W u u':World} {l:List (Value × List (Iv K))} {bs:List (Nat × Obj)} (h:MQ W u l bs) (hk:Keep [] u u') {v:Value} {m:List (Iv K)} (hv:IvR u' v m):MQ W u' ((v,m) :: l) bs:=by
 obtain⟨a1,a2,a3⟩:=h.move hk;refine ⟨a1,fun p hp=>?_,a3⟩;rcases List.mem_cons.1 hp with rfl|hp
 ·exact hv
 exact a2 p hp
theorem MQ.new' {W u:World} {l:List (Value × List (Iv K))} {bs:List (Nat × Obj)} (h:MQ W u l bs) (z:Obj):∃ u' g,u.alloc z=u'∧u.heap.size=g∧MQ W u' l ((g,z) :: bs):=by
 have hk:=Keep.alloc [] u z;obtain⟨a1,a2,a3⟩:=h.move hk;refine ⟨_,_,rfl,rfl,a1,a2,fun b hb=>?_⟩;rcases List.mem_cons.1 hb with rfl|hb
 ·exact ⟨World.alloc_heap_new u z,h.1.size⟩
 exact a3 b hb
theorem MQ.put {W u u':World} {l:List (Value × List (Iv K))} {g:Nat} {cs:Array Value} {t:TypeId} {o:Obj} (h:MQ W u l [(g,.cells cs t)]) (hs:cs.size<20) (hb:u'.heap[g]? = some o) (hk:Keep [g] u u'):MQ W u' l [(g,o)]:=by
 obtain⟨a1,a2,a3⟩:=h;have hg:=a3 (g,.cells cs t) (by simp);refine ⟨a1.trans hk (by simp;exact hg.2),fun p hp=>(a2 p hp).laterBox hg.1 hs hk,fun b hb'=>?_⟩;simp at hb';subst hb';exact ⟨hb,hg.2⟩
theorem MQ.get {W u:World} {l:List (Value × List (Iv K))} {bs:List (Nat × Obj)} (h:MQ W u l bs) (v:Value) (m:List (Iv K)) (hm:(v,m)∈l):IvR u v m:=h.2.1 (v,m) hm
section
open Classical
structure OutB (w:World) (g:Nat) (vs:List (Value × List (Iv K))):Prop where
 blk:w.heap[g]? = some (.cells (vs.map (·.1)).toArray 22)
 ls:Ls w vs
theorem OutB.grow {w w':World} {g:Nat} {vs:List (Value × List (Iv K))} (h:OutB w g vs) (hb:Below w.heap.size w w'):OutB w' g vs:=⟨(hb.block g (yaa h.blk)).trans h.blk,h.ls.grow hb⟩
theorem OutB.cell {w:World} {g:Nat} {vs:List (Value × List (Iv K))} (h:OutB w g vs) (i:Nat) (hi:i<vs.length) :
  ∃ a c,w.cell? ⟨g,i,none⟩=some (.slice a vs[i].2.length c)∧Ls w [(.slice a vs[i].2.length c,vs[i].2)]:=by
 have hm:vs[i]∈vs:=List.getElem_mem hi;obtain⟨a,c,e,_⟩:=(h.ls _ hm).1.form;refine ⟨a,c,?_,fun p hp=>?_⟩
 ·rw [yab h.blk,← e]
  simp [hi]
 rw [List.mem_singleton] at hp;subst hp;have:=h.ls _ hm;rw [e] at this;exact this
theorem Ls.laterBox {w w':World} {L:List (Value × List (Iv K))} (h:Ls w L) {g:Nat} {cs:Array Value} {t:TypeId} (hb:w.heap[g]? = some (.cells cs t)) (hs:cs.size<20) (hk:Keep [g] w w'):Ls w' L :=
 fun p hp=>⟨(h p hp).1.laterBox hb hs hk,(h p hp).2⟩
theorem yhQ {w:World} {g i:Nat} {v:Value} {cs:Array Value} {t:TypeId} (h:w.heap[g]? = some (.cells cs t (0,0))) (hi:i<cs.size) :
  ∃ W,w.setCell ⟨g,i,none⟩ v=W∧W.heap[g]? = some (.cells (cs.setIfInBounds i v) t (0,0))∧Keep [g] w W:=by
 have:=ybG [v] i cs w h;exact ⟨_,rfl,this.1,this.2⟩
theorem OutB.set {w:World} {g:Nat} {vs:List (Value × List (Iv K))} (h:OutB w g vs) (hl:vs.length<20) (i:Nat) (hi:i<vs.length) {v:Value} {l:List (Iv K)} (hv:Ls w [(v,l)]) :
  ∃ W,w.setCell ⟨g,i,none⟩ v=W∧OutB W g (vs.set i (v,l))∧Keep [g] w W:=by
 have hs:(vs.map (·.1)).toArray.size<20:=by simp;exact hl
 obtain⟨W,e,hb,hk⟩:=yhQ (v:=v) h.blk (i:=i) (by simp;exact hi);refine ⟨W,e,⟨?_,fun p hp=>?_⟩,hk⟩
 ·rw [hb]
  simp [List.map_set]
 rcases List.mem_or_eq_of_mem_set hp with hp|rfl
 ·exact h.ls.laterBox h.blk hs hk p hp
 exact hv.laterBox h.blk hs hk _ (List.mem_singleton.2 rfl)
theorem OutB.start (w:World) (n:Nat):∃ W g,w.alloc (.cells ((List.replicate n ((.slice none 0 0:Value),([]:List (Iv K)))).map (·.1)).toArray 22)=W∧w.heap.size=g∧OutB W g (List.replicate n (.slice none 0 0,[]))∧Keep [] w W:=by
 obtain⟨W,g,e1,e2,b,_,_,hk⟩:=al1 w (.cells ((List.replicate n ((.slice none 0 0:Value),([]:List (Iv K)))).map (·.1)).toArray 22);refine ⟨W,g,e1.symm,e2,⟨b,fun p hp=>?_⟩,hk⟩;obtain rfl:=List.eq_of_mem_replicate hp;exact ⟨RowE.nil _,trivial,by simp⟩
end
section
open Classical
theorem Ls.one {w:World} {v u:Value} {a b:List (Iv K)} (h:Ls w [(v,a)]) (k:Ls w [(u,b)]):Ls w [(v,a),(u,b)]:=fun p hp=>by
 rcases List.mem_cons.1 hp with rfl|hp
 ·exact h _ (List.mem_singleton.2 rfl)
 exact k p hp
theorem Ls.hd {w:World} {p:Value × List (Iv K)} {L:List (Value × List (Iv K))} (h:Ls w (p :: L)):Ls w [p]:=h.sub fun q hq=>by
 rw [List.mem_singleton] at hq;subst hq;exact List.mem_cons_self ..
end
section
open Classical
theorem yaR (q:Rat):(rC q).all (·.oneCell')=true:=all_oneCell_toArray (by
 intro v hv;simp only [rcells,List.mem_cons,List.not_mem_nil,or_false] at hv
 rcases hv with rfl|rfl|rfl|rfl<;>rfl)
end
section
open Classical
def Qn.sh (x:Qn) (c:Rat):Qn:=⟨x.p+c,x.r,x.neg⟩
theorem sh_u (x:Qn) (c:Rat):(x.sh c).u=x.u:=rfl
theorem sh_ok {x:Qn} (hx:x.Ok) (c:Rat):(x.sh c).Ok:=⟨hx.nn,hx.zero,hx.sq⟩
theorem yig {x:Qn} {c q:Rat}:Above1 q (x.sh c)↔Above1 (q-c) x:=by
 unfold Above1;rw [sh_u];have e:q-(x.sh c).p=q-c-x.p:=by unfold Qn.sh;grind
 rw [e];rfl
theorem yfK {x:Qn} {c q:Rat}:Below1 q (x.sh c)↔Below1 (q-c) x:=by
 unfold Below1;rw [sh_u];have e:(x.sh c).p-q=x.p-(q-c):=by unfold Qn.sh;grind
 rw [e];rfl
theorem ycQ {x:Qn} {q q':Rat} (hx:x.Ok) (h:¬ Below1 q x) (hq:q<q'):Above1 q' x:=by
 by_cases hr:x.r=0
 ·unfold Below1 at h
  unfold Above1;rw [hr,ybd] at h ⊢;grind
 rw [ycc hx hr,Classical.not_not] at h;exact h.mono hx.nn (by grind)
theorem ycT {x:Qn} {q q':Rat} (hx:x.Ok) (h:¬ Above1 q x) (h2:Above1 q' x):q<q':=by
 by_cases h3:q<q'
 ·exact h3
 exact absurd (h2.mono hx.nn (by grind)) h
theorem below_cmp {x:Qn} {q q':Rat} (hx:x.Ok) (h:¬ Below1 q x) (h2:Below1 q' x):q'<q:=by
 by_cases h3:q'<q
 ·exact h3
 exact absurd (h2.mono hx.nn (by grind)) h
noncomputable def simpF:Nat→Qn→Qn→Rat
 | 0,_,_=>0
 | n+1,x,y =>
  if Below1 ((x.flr+1:Int):Rat) y then ((x.flr+1:Int):Rat)
  else 1 / (if Below1 0 (x.sh (-(x.flr:Rat))) then simpF n (y.sh (-(x.flr:Rat))).inv (x.sh (-(x.flr:Rat))).inv else (((y.sh (-(x.flr:Rat))).inv.flr+1:Int):Rat))+(x.flr:Rat)
structure Wit (x y:Qn) (p q:Nat):Prop where
 q0:0<q
 xo:x.Ok
 yo:y.Ok
 nn:¬ Above1 0 x
 a:Above1 ((p:Rat) / (q:Rat)) x
 b:Below1 ((p:Rat) / (q:Rat)) y
theorem ydC {a b:Nat}:(a:Rat)<(b:Rat)↔a<b:=by
 have:=ycs (a:=(a:Int)) (b:=(b:Int));rw [Rat.intCast_natCast,Rat.intCast_natCast] at this;rw [this];omega
theorem yaE {a:Nat} (h:0<a):(0:Rat)<(a:Rat):=(ydC (a:=0)).2 h
theorem Wit.flr {x y:Qn} {p q:Nat} (h:Wit x y p q):∃ b:Nat,x.flr=(b:Int)∧b*q<p:=by
 obtain⟨f1,f2⟩:=yiM h.xo
 have h0:0≤x.flr:=by
  by_cases h0:0≤x.flr
  ·exact h0
  exfalso;refine h.nn (f2.mono h.xo.nn ?_);have:=yaY (a:=x.flr+1) (b:=0);exact this.2 (by omega)
 obtain⟨b,hb⟩:=Int.eq_ofNat_of_zero_le h0;refine ⟨b,hb,?_⟩;rw [hb,Rat.intCast_natCast] at f1;have h2:=ycT h.xo f1 h.a;have hq:=yaE h.q0;rw [Rat.lt_div_iff hq] at h2;rw [← ydC,Rat.natCast_mul];exact h2
theorem Wit.next {x y:Qn} {p q b:Nat} (h:Wit x y p q) (hb:x.flr=(b:Int)) (hn:¬ Below1 ((x.flr+1:Int):Rat) y) :
  ∃ r:Nat,p=b*q+r∧0<r∧r<q∧(y.sh (-(x.flr:Rat))).Ok∧Below1 0 (y.sh (-(x.flr:Rat))) ∧ ¬ Above1 0 (y.sh (-(x.flr:Rat))).inv∧Above1 ((q:Rat) / (r:Rat)) (y.sh (-(x.flr:Rat))).inv ∧
   (Below1 0 (x.sh (-(x.flr:Rat)))→Wit (y.sh (-(x.flr:Rat))).inv (x.sh (-(x.flr:Rat))).inv q r):=by
 obtain⟨b',hb',h1⟩:=h.flr;obtain rfl:b'=b:=by omega
 rw [hb] at hn;rw [hb,Rat.intCast_natCast];clear hb hb';have hq:=yaE h.q0
 have h2:p<b'*q+q:=by
  have h3:=below_cmp h.yo hn h.b;rw [Rat.div_lt_iff hq] at h3;have e:((b':Int)+1:Int)=((b'+1:Nat):Int):=by omega
  rw [e,Rat.intCast_natCast,← Rat.natCast_mul,ydC,Nat.succ_mul] at h3;exact h3
 obtain⟨r,hr⟩:=Nat.le.dest (Nat.le_of_lt h1);have hr0:=yaE (a:=r) (by omega);have hpe:(p:Rat)=(b':Rat)*q+r:=by rw [← hr,Rat.natCast_add,Rat.natCast_mul]
 have hd:(p:Rat) / q-(b':Rat)=(r:Rat) / q:=by
  rw [hpe,Rat.div_def,Rat.div_def];have:(q:Rat)*(q:Rat)⁻¹=1:=Rat.mul_inv_cancel _ (by grind);grind
 have hy:=sh_ok h.yo (-(b':Rat));have hx:=sh_ok h.xo (-(b':Rat))
 have hyb:Below1 ((r:Rat) / q) (y.sh (-(b':Rat))):=by
  rw [yfK,← hd];have:(p:Rat) / q-(b':Rat) - -(b':Rat)=(p:Rat) / q:=by grind
  rw [this];exact h.b
 have hxa:Above1 ((r:Rat) / q) (x.sh (-(b':Rat))):=by
  rw [yig,← hd];have:(p:Rat) / q-(b':Rat) - -(b':Rat)=(p:Rat) / q:=by grind
  rw [this];exact h.a
 have hrq:0<(r:Rat) / q:=by rw [Rat.lt_div_iff hq];grind
 have hqr:0<(q:Rat) / r:=by rw [Rat.lt_div_iff hr0];grind
 have hinv:1 / ((q:Rat) / r)=(r:Rat) / q:=by
  rw [Rat.div_def,Rat.div_def,Rat.div_def,Rat.inv_mul_rev,Rat.inv_inv];grind
 have hy0:Below1 0 (y.sh (-(b':Rat))):=hyb.mono hy.nn (Rat.le_of_lt hrq)
 have hA:Above1 ((q:Rat) / r) (y.sh (-(b':Rat))).inv:=by
  rw [inv_above hy hy0 hqr,hinv];exact hyb
 have hN:¬ Above1 0 (y.sh (-(b':Rat))).inv:=by
  intro h3
  have h4:Above1 2 (y.sh (-(b':Rat))):=by
   refine ycQ (q:=1) hy (fun h5=>hn ?_) (by grind);rw [yfK] at h5;have:(((b':Int)+1:Int):Rat)=1 - -(b':Rat):=by rw [Rat.intCast_add,Rat.intCast_natCast];have:((1:Int):Rat)=1:=rfl;grind
   rw [this];exact h5
  have h6:Below1 (1 / 2) (y.sh (-(b':Rat))).inv:=by
   rw [yfd hy hy0 (by rw [Rat.lt_div_iff (by grind)];grind)]
   have:(1:Rat) / (1 / 2)=2:=by
    rw [Rat.div_def,Rat.div_def,Rat.inv_mul_rev,Rat.inv_inv];grind
   rw [this];exact h4
  have:=ycg (yem hy).nn h6 h3;grind
 refine ⟨r,by omega,by omega,by omega,hy,hy0,hN,hA,fun h0=>⟨by omega,yem hy,yem hx,hN,hA,?_⟩⟩;rw [yfd hx h0 hqr,hinv];exact hxa
theorem simpF_ok:∀ (n p q:Nat) (x y:Qn),q≤n→Wit x y p q→Above1 (simpF n x y) x∧Below1 (simpF n x y) y∧∃ a c:Nat,0<a∧0<c∧simpF n x y=(a:Rat) / (c:Rat)∧a≤p∧c≤q
 | 0,p,q,x,y,hq,h=>by have:=h.q0;omega
 | n+1,p,q,x,y,hq,h=>by
  obtain⟨b,hb,hbq⟩:=h.flr;have hq1:=h.q0;have hbb:b≤b*q:=Nat.le_mul_of_pos_right b hq1;obtain⟨f1,f2⟩:=yiM h.xo;unfold simpF;by_cases hB:Below1 ((x.flr+1:Int):Rat) y
  ·rw [if_pos hB]
   refine ⟨f2,hB,b+1,1,by omega,by omega,?_,by omega,by omega⟩;rw [hb];have e:((b:Int)+1:Int)=((b+1:Nat):Int):=by omega
   rw [e,Rat.intCast_natCast,Rat.div_def];have:((1:Nat):Rat)=1:=rfl;rw [this];grind
  rw [if_neg hB];obtain⟨r,hp,hr0,hrq,hy,hy0,hN,hA,hW⟩:=h.next hb hB;have hx:=sh_ok h.xo (-(x.flr:Rat))
  -- whatever lies between the two reciprocals serves
  have key:∀ s:Rat,0<s→Above1 s (y.sh (-(x.flr:Rat))).inv→Above1 (1 / s) (x.sh (-(x.flr:Rat)))→Above1 (1 / s+(x.flr:Rat)) x∧Below1 (1 / s+(x.flr:Rat)) y:=by
   intro s hs h1 h2;rw [yig] at h2;rw [inv_above hy hy0 hs,yfK] at h1;have e:1 / s - -(x.flr:Rat)=1 / s+(x.flr:Rat):=by grind
   rw [e] at h1 h2;exact ⟨h2,h1⟩
  have frac:∀ (s:Rat) (a c:Nat),0<a→0<c→s=(a:Rat) / (c:Rat)→a≤q→c≤r→∃ a c:Nat,0<a∧0<c∧1 / s+(x.flr:Rat)=(a:Rat) / (c:Rat)∧a≤p∧c≤q:=by
   intro s a c ha hc hs haq hcr;refine ⟨c+b*a,a,by omega,ha,?_,?_,haq⟩
   ·have ha':=yaE ha
    have hc':=yaE hc;have h3:(a:Rat)*(a:Rat)⁻¹=1:=Rat.mul_inv_cancel _ (by grind);rw [hs,hb,Rat.intCast_natCast,Rat.div_def,Rat.div_def,Rat.div_def,Rat.inv_mul_rev,Rat.inv_inv,Rat.natCast_add,Rat.natCast_mul];grind
   have:=Nat.mul_le_mul_left b haq;omega
  by_cases h0:Below1 0 (x.sh (-(x.flr:Rat)))
  ·rw [if_pos h0]
   have hw:=hW h0;obtain⟨i1,i2,a,c,ha,hc,hs,haq,hcr⟩:=simpF_ok n q r _ _ (by omega) hw;generalize simpF n (y.sh (-(x.flr:Rat))).inv (x.sh (-(x.flr:Rat))).inv=s at *
   have hs0:0<s:=by
    rw [hs,Rat.lt_div_iff (yaE hc)];have:=yaE ha;grind
   rw [yfd hx h0 hs0] at i2;obtain⟨k1,k2⟩:=key s hs0 i1 i2;exact ⟨k1,k2,frac s a c ha hc hs haq hcr⟩
  rw [if_neg h0];obtain⟨g1,g2⟩:=yiM (yem hy)
  have e0:0≤(y.sh (-(x.flr:Rat))).inv.flr:=by
   by_cases e0:0≤(y.sh (-(x.flr:Rat))).inv.flr
   ·exact e0
   exfalso;exact hN (g2.mono (yem hy).nn ((yaY (b:=0)).2 (by omega)))
  obtain⟨e,he⟩:=Int.eq_ofNat_of_zero_le e0;rw [he] at g1 g2 ⊢;have heq:((e:Int)+1:Int)=((e+1:Nat):Int):=by omega
  rw [heq,Rat.intCast_natCast] at g2 ⊢;rw [Rat.intCast_natCast] at g1;have hs0:=yaE (a:=e+1) (by omega);have hx0:Above1 (1 / ((e+1:Nat):Rat)) (x.sh (-(x.flr:Rat))):=ycQ hx h0 (ydB hs0);obtain⟨k1,k2⟩:=key _ hs0 g2 hx0;refine ⟨k1,k2,frac _ (e+1) 1 (by omega) (by omega) ?_ ?_ hr0⟩
  ·rw [Rat.div_def]
   have:((1:Nat):Rat)=1:=rfl;rw [this];grind
  have h5:=ycT (yem hy) g1 hA;rw [Rat.lt_div_iff (yaE hr0),← Rat.natCast_mul,ydC] at h5;have:=Nat.le_mul_of_pos_right e hr0;omega
theorem simpF_fuel:∀ (n m p q:Nat) (x y:Qn),q≤n→q≤m→Wit x y p q→simpF n x y=simpF m x y
 | 0,m,p,q,x,y,hq,hm,h=>by have:=h.q0;omega
 | n+1,0,p,q,x,y,hq,hm,h=>by have:=h.q0;omega
 | n+1,m+1,p,q,x,y,hq,hm,h=>by
  obtain⟨b,hb,hbq⟩:=h.flr;unfold simpF;by_cases hB:Below1 ((x.flr+1:Int):Rat) y
  ·rw [if_pos hB,if_pos hB]
  rw [if_neg hB,if_neg hB];obtain⟨r,hp,hr0,hrq,hy,hy0,hN,hA,hW⟩:=h.next hb hB;by_cases h0:Below1 0 (x.sh (-(x.flr:Rat)))
  ·rw [if_pos h0,if_pos h0,simpF_fuel n m q r _ _ (by omega) (by omega) (hW h0)]
  rw [if_neg h0,if_neg h0]
end
end Go.Proofs.YtpgffjjpiafhpaaGreatDoor
