/- Parts of a proof: Fq Fp. -/
import Derived.Deep.CutBlock
import Derived.Deep.DeepCutAuto
import Derived.Test.YtpgffjjpiafhpaaGreatDoorU27
import Derived.Test.YtpgffjjpiafhpaaGreatDoorU28
import Derived.Test.YtpgffjjpiafhpaaGreatDoorU15
import Derived.Test.YtpgffjjpiafhpaaGreatDoorU35
import Derived.Test.YtpgffjjpiafhpaaGreatDoorU30
set_option linter.unusedVariables false
set_option linter.unusedSimpArgs false
set_option maxRecDepth 100000
set_option maxHeartbeats 8000000
namespace Go.Proofs.YtpgffjjpiafhpaaGreatDoor
open Go.RowKit Tryz
section
open Classical
theorem infoStB:(prog.info? 65).map (fun i=>(i.zero.map Value.cells,i.size,i.bytes))=some (some #[.slice none 0 0,.bool false,.string ⟨#[]⟩,.bool false,.string ⟨#[]⟩,.bool false,.string ⟨#[]⟩,.bool false,.string ⟨#[]⟩,.bool false,.string ⟨#[]⟩,.bool false,.string ⟨#[]⟩],13,168):=by kernel_rfl
theorem st_info:∃ i z,prog.info? 65=some i∧i.zero=some z∧i.size=13∧i.bytes=168∧z.cells = #[.slice none 0 0,.bool false,.string ⟨#[]⟩,.bool false,.string ⟨#[]⟩,.bool false,.string ⟨#[]⟩,.bool false,.string ⟨#[]⟩,.bool false,.string ⟨#[]⟩,.bool false,.string ⟨#[]⟩]:=by
 have h:=infoStB;cases hi:prog.info? 65 with
 | none=>rw [hi] at h;cases h
 | some i =>
  rw [hi] at h;simp only [Option.map_some,Option.some.injEq,Prod.mk.injEq] at h;obtain⟨h1,h2,h3⟩:=h;cases hz:i.zero with
  | none=>rw [hz] at h1;cases h1
  | some z =>
   rw [hz] at h1;injection h1 with h1;exact ⟨i,z,rfl,hz,h2,h3,h1⟩
theorem put13g (a1 a2 a3 a4 a5 a6 a7 a8 a9 a10 a11 a12 a13 b1 b2 b3 b4:Value):ybv #[a1,a2,a3,a4,a5,a6,a7,a8,a9,a10,a11,a12,a13] 1 [b1,b2,b3,b4] = #[a1,b1,b2,b3,b4,a6,a7,a8,a9,a10,a11,a12,a13]:=by kernel_rfl
theorem put13a (a1 a2 a3 a4 a5 a6 a7 a8 a9 a10 a11 a12 a13 b1 b2 b3 b4:Value):ybv #[a1,a2,a3,a4,a5,a6,a7,a8,a9,a10,a11,a12,a13] 5 [b1,b2,b3,b4] = #[a1,a2,a3,a4,a5,b1,b2,b3,b4,a10,a11,a12,a13]:=by kernel_rfl
theorem put13b (a1 a2 a3 a4 a5 a6 a7 a8 a9 a10 a11 a12 a13 b1 b2 b3 b4:Value):ybv #[a1,a2,a3,a4,a5,a6,a7,a8,a9,a10,a11,a12,a13] 9 [b1,b2,b3,b4] = #[a1,a2,a3,a4,a5,a6,a7,a8,a9,b1,b2,b3,b4]:=by kernel_rfl
theorem StV.eC (a:Option Addr) (c:Nat) (d:List (Iv K)) (g x y:Rat):StV.C ⟨a,c,⟨d,g,x,y⟩⟩ = #[.slice a d.length c,.bool (sgB g.num),.string (mgS g.num),.bool false,.string (dnS g.den),.bool (sgB x.num),.string (mgS x.num),.bool false,.string (dnS x.den),.bool (sgB y.num),.string (mgS y.num),.bool false,.string (dnS y.den)]:=rfl
theorem st_built' (a:Option Addr) (n c:Nat):prog.built 65 [(0,.slice a n c)]=some #[.slice a n c,.bool false,.string ⟨#[]⟩,.bool false,.string ⟨#[]⟩,.bool false,.string ⟨#[]⟩,.bool false,.string ⟨#[]⟩,.bool false,.string ⟨#[]⟩,.bool false,.string ⟨#[]⟩]:=by kernel_rfl
theorem st_built (a:Option Addr) (c:Nat) (d:List (Iv K)):prog.built 65 [(0,.slice a d.length c)]=some (StV.C ⟨a,c,⟨d,0,0,0⟩⟩):=by
 rw [st_built',StV.eC];have h1:sgB (0:Rat).num=false:=by decide
 have h2:mgS (0:Rat).num=⟨#[]⟩:=yba.2 rfl;have h3:dnS (0:Rat).den=⟨#[]⟩:=by unfold dnS;rfl
 rw [h1,h2,h3]
theorem put_g (a:Option Addr) (c:Nat) (d:List (Iv K)) (g x y z:Rat):ybv (StV.C ⟨a,c,⟨d,g,x,y⟩⟩) 1 (rC z).toList=StV.C ⟨a,c,⟨d,z,x,y⟩⟩:=by
 rw [StV.eC,StV.eC];exact put13g _ _ _ _ _ _ _ _ _ _ _ _ _ _ _ _ _
theorem put_a (a:Option Addr) (c:Nat) (d:List (Iv K)) (g x y z:Rat):ybv (StV.C ⟨a,c,⟨d,g,x,y⟩⟩) 5 (rC z).toList=StV.C ⟨a,c,⟨d,g,z,y⟩⟩:=by
 rw [StV.eC,StV.eC];exact put13a _ _ _ _ _ _ _ _ _ _ _ _ _ _ _ _ _
theorem put_b (a:Option Addr) (c:Nat) (d:List (Iv K)) (g x y z:Rat):ybv (StV.C ⟨a,c,⟨d,g,x,y⟩⟩) 9 (rC z).toList=StV.C ⟨a,c,⟨d,g,x,z⟩⟩:=by
 rw [StV.eC,StV.eC];exact put13b _ _ _ _ _ _ _ _ _ _ _ _ _ _ _ _ _
theorem fill_s1 (a:Option Addr) (n c:Nat) (n1 n2 n3:Bool) (s1 d1 s2 d2 s3 d3:ByteArray):Instr.fill (fun i=>some (i*13,13)) ((Array.range (1*13)).map ((#[.slice none 0 0,.bool false,.string ⟨#[]⟩,.bool false,.string ⟨#[]⟩,.bool false,.string ⟨#[]⟩,.bool false,.string ⟨#[]⟩,.bool false,.string ⟨#[]⟩,.bool false,.string ⟨#[]⟩]:Array Value)[· % (#[.slice none 0 0,.bool false,.string ⟨#[]⟩,.bool false,.string ⟨#[]⟩,.bool false,.string ⟨#[]⟩,.bool false,.string ⟨#[]⟩,.bool false,.string ⟨#[]⟩,.bool false,.string ⟨#[]⟩]:Array Value).size]!))
  #[(0, Value.agg #[.slice a n c, .bool n1, .string s1, .bool false, .string d1, .bool n2, .string s2, .bool false, .string d2, .bool n3, .string s3, .bool false, .string d3])].toList = some #[.slice a n c, .bool n1, .string s1, .bool false, .string d1, .bool n2, .string s2, .bool false, .string d2, .bool n3, .string s3, .bool false, .string d3] := by kernel_rfl
theorem yiO (x:StV) (w:World):(Instr.buildSlice 62 1 #[(0,.agg x.C)]).run prog w = .ok (.slice (some ⟨w.heap.size,0,none⟩) 1 1) (w.alloc (.cells x.C 65)):=by
 obtain⟨i,z,hi,hz,hs,hb,hzc⟩:=st_info;refine run_buildSlice (P:=prog) w 62 65 1 _ _ i z underlying62 hi hz (by rw [hs];decide) (by rw [hs];decide) ?_;rw [hs,hzc];exact fill_s1 _ _ _ _ _ _ _ _ _ _ _ _
theorem OBS.app {w0 w:World} {v:Value} {l:List StV} (t:StV) (h:OB StV.cells 65 13 w0 w v l) (h9:l.length≤1000000) :
  ∃ u,w.alloc (.cells t.C 65)=u∧∃ v4 u4,(Builtin.append_ #[62,62] 62 #[v,.slice (some ⟨w.heap.size,0,none⟩) 1 1]).run prog u = .ok v4 u4∧OB StV.cells 65 13 w0 u4 v4 (l++[t])∧∃ F,(∀ g,v.ownBlock=some g→g∈F)∧(∀ g∈F,v.ownBlock=some g)∧Keep F w u4:=by
 have hk:=Keep.alloc [] w (.cells t.C 65);have hx:RowE StV.cells (w.alloc (.cells t.C 65)) (.slice (some ⟨w.heap.size,0,none⟩) 1 1) [t]:=.inr ⟨w.heap.size,0,1,rfl,Nat.le_refl _,by simp,fun i v hv=>ybC (World.alloc_heap_new w (.cells t.C 65)) i v (by simpa using hv)⟩;obtain⟨b,hbs,hoe,hback⟩:=(h.later hk.bz).oe;obtain⟨i,z,hi,hz,hs,hbt,hzc⟩:=st_info;obtain⟨v4,u4,hr4,ho4,hn4,hk4⟩:=OE.app (P:=prog) (bytes:=168) (ty:=62) underlying62 hi hz hs hbt (by rw [hzc];rfl) (by decide) StV.len StV.one hoe (.inr (by simp)) hx (by unfold maxLen;simp;omega) (by simp;omega);refine ⟨_,rfl,v4,u4,hr4,hback _ _ _ ho4,v.ownBlock.toList,fun g hg=>by rw [hg];simp,fun g hg=>by simpa using hg,?_⟩;have:=hk4 v.ownBlock.toList (fun g hg=>by rw [hg];simp);refine ⟨this.os.trans hk.os,this.tape.trans hk.tape,this.output.trans hk.output,Nat.le_trans hk.size this.size,Nat.le_trans hk.drawn this.drawn,fun j hj hn=>?_⟩;exact (this.block j (Nat.lt_of_lt_of_le hj hk.size) hn).trans (hk.block j hj (by simp))
end
section
open Classical
theorem infoFv:∃ ie,prog.info? 80=some ie∧ie.size=5:=by
 have h:(prog.info? 80).map (·.size)=some 5:=by kernel_rfl
 cases hi:prog.info? 80 with
 | none=>rw [hi] at h;cases h
 | some ie=>rw [hi] at h;exact ⟨ie,rfl,by simpa using h⟩
theorem load_fv (w:World) (b o:Nat) (s:Value) (e:EvA) (h:∀ j v,(fvcells s e)[j]? = some v→w.cell? ⟨b,o+j,none⟩=some v):(loadVar 80 ⟨b,o,none⟩).run prog w = .ok (.agg (fvcells s e).toArray) w:=by
 obtain⟨ie,hie,hs⟩:=infoFv;exact Go.Lib.rl_loadVar_cells 80 ie hie isAgg80 b o (fvcells s e) (by rw [hs];rfl) w h
theorem fv_size (s:Value) (e:EvA):(prog.info? 80).map (·.size)=some (fvcells s e).toArray.size:=by
 obtain⟨ie,hie,hs⟩:=infoFv;rw [hie];exact congrArg some hs
theorem fv_ones (a:Option Addr) (n c:Nat) (e:EvA):(fvcells (.slice a n c) e).toArray.all (·.oneCell')=true:=all_oneCell_toArray (by
 intro v hv;simp only [fvcells,List.mem_cons,List.not_mem_nil,or_false] at hv
 rcases hv with rfl|rfl|rfl|rfl|rfl<;>rfl)
theorem al_fv (ev:Operand→Value) (w:World) (o:Oper) (ho:o.op = .alloc 80):(execOp ev o).run prog w = .ok (.value (.pointer (some ⟨w.heap.size,0,none⟩))) (w.alloc (.cells #[.slice none 0 0,.int .u8 0,.int .u8 0,.int .u8 0,.int .u8 0] 80)):=by
 unfold execOp;simp only [ho];go_simp
theorem set18 (a1 a2 a3 a4 a5 a6 a7 a8 a9 a10 a11 a12 a13 a14 a15 a16 a17 a18 a19 a20 x y:Value):((#[a1,a2,a3,a4,a5,a6,a7,a8,a9,a10,a11,a12,a13,a14,a15,a16,a17,a18,a19,a20]:Array Value).setIfInBounds 18 x).setIfInBounds 19 y = #[a1,a2,a3,a4,a5,a6,a7,a8,a9,a10,a11,a12,a13,a14,a15,a16,a17,a18,x,y]:=by kernel_rfl
theorem yhf (f l:K) (bf bt:Bool):((iC ⟨⟨f,false⟩,⟨l,true⟩⟩).setIfInBounds 18 (.bool bf)).setIfInBounds 19 (.bool bt)=iC ⟨⟨f,bf⟩,⟨l,!bt⟩⟩:=by
 have e:iC ⟨⟨f,bf⟩,⟨l,!bt⟩⟩ = #[.bool (sgB f.1.p.num),.string (mgS f.1.p.num),.bool false,.string (dnS f.1.p.den),.bool (sgB f.1.r.num),.string (mgS f.1.r.num),.bool false,.string (dnS f.1.r.den),.bool f.1.neg,.bool (sgB l.1.p.num),.string (mgS l.1.p.num),.bool false,.string (dnS l.1.p.den),.bool (sgB l.1.r.num),.string (mgS l.1.r.num),.bool false,.string (dnS l.1.r.den),.bool l.1.neg,.bool bf,.bool bt]:=by
  rw [show (Value.bool bt) = .bool (!(!bt)) by rw [Bool.not_not]]
  rfl
 rw [e];exact set18 _ _ _ _ _ _ _ _ _ _ _ _ _ _ _ _ _ _ _ _ _ _
theorem lo_sm (q:PartA):Sm 5 (loK q):=⟨(yfa q).1.mono (by decide),(yfa q).2.mono (by decide)⟩
theorem b_fit (q:PartA):FitQ 24 (half ((q.b % 16:Nat):Int)):=(ybk (by omega)).mono (by decide)
theorem sh_hi {o:Nat} {q:PartA} (h:¬ 6≤o % 8):mvK (half ((q.b % 16:Nat):Int)) (loK q)=hiK o q:=Subtype.ext (by
 rw [yaS (lo_sm q) (by omega) (b_fit q)];show mvQ (loQ q) _=hiQ o q
 unfold hiQ;rw [if_neg h]
 rfl)
theorem OB.own_lt {α:Type} {enc:α→List Value} {e:TypeId} {k:Nat} {w0 w:World} {v:Value} {l:List α} (h:OB enc e k w0 w v l):∀ b,v.ownBlock=some b→b<w.heap.size:=by
 intro b hb;rcases h.row.2 with ⟨hv,_⟩|⟨g,cap,cur,hv,_,hg,_⟩
 ·rw [hv] at hb;cases hb
 rw [hv] at hb;injection hb with hb;subst hb;exact yaa hg
theorem OB.laterBox {α:Type} {enc:α→List Value} {e:TypeId} {k:Nat} {w0 w w':World} {v:Value} {l:List α} (h:OB enc e k w0 w v l) {g:Nat} (hk:Keep [g] w w') (hg:w0.heap.size≤g) (hne:∀ b,v.ownBlock=some b→b<g):OB enc e k w0 w' v l :=
 ⟨ydt h.row hk (fun b hb hm=>by rw [List.mem_singleton] at hm;have:=hne b hb;omega),h.base,h.keep.trans (hk.below (by simp;exact hg) h.keep.size)⟩
theorem OB.laterP {α:Type} {enc:α→List Value} {e:TypeId} {k:Nat} {w0 w w':World} {v:Value} {l:List α} (h:OB enc e k w0 w v l) {g:Nat} (hb:Below g w w') (hg:w0.heap.size≤g) (hne:∀ b,v.ownBlock=some b→b<g):OB enc e k w0 w' v l:=by
 refine ⟨⟨h.row.1,?_⟩,h.base,h.keep.trans (Below.mono hb hg)⟩;rcases h.row.2 with hn|⟨b,cap,cur,hv,hb1,hg1,rest⟩
 ·exact .inl hn
 exact .inr ⟨b,cap,cur,hv,hb1,(hb.block b (hne b (by rw [hv];rfl))).trans hg1,rest⟩
abbrev OBS (w0 w:World) (v:Value) (l:List StV):Prop:=OB StV.cells 65 13 w0 w v l
def StsP (w:World) (l:List EvA) (svs:List StV):Prop:=stS svs=yaW l∧Ls w (svs.map fun x=>(x.v,x.s.d))∧∀ x∈svs,TyI w x.v
theorem TyI.grow {w w':World} {v:Value} (h:TyI w v) (hb:Below w.heap.size w w'):TyI w' v:=fun g hg=>by
 obtain⟨cur,hc⟩:=h g hg;exact ⟨cur,(hb.block g (yaa hc)).trans hc⟩
theorem StsP.grow {w w':World} {l:List EvA} {svs:List StV} (h:StsP w l svs) (hb:Below w.heap.size w w'):StsP w' l svs:=⟨h.1,h.2.1.grow hb,fun x hx=>(h.2.2 x hx).grow hb⟩
theorem ty_ne {w:World} {v:Value} (h:TyI w v) {g:Nat} {cur:Array Value} (hg:w.heap[g]? = some (.cells cur 65)):v.ownBlock≠some g:=fun he=>by
 obtain⟨c2,h2⟩:=h g he;rw [hg] at h2;injection h2 with h2;injection h2 with _ h3;exact absurd h3 (by decide)
theorem IvR.laterTy {w w':World} {v:Value} {l:List (Iv K)} (h:IvR w v l) (ht:TyI w v) {F:List Nat} (hF:∀ g∈F,∃ cur,w.heap[g]? = some (.cells cur 65)) (hk:Keep F w w'):IvR w' v l∧TyI w' v:=by
 refine ⟨?_,fun g hg=>?_⟩
 ·rcases h with h|⟨g,o,c,rfl,hc,hg,hx⟩
  ·exact .inl h
  refine .inr ⟨g,o,c,rfl,hc,Nat.lt_of_lt_of_le hg hk.size,fun i v hv=>?_⟩;rw [World.cell?_of_block (hk.block g hg (fun hm=>by obtain⟨cur,hc2⟩:=hF g hm;exact ty_ne ht hc2 rfl))];exact hx i v hv
 obtain⟨cur,hc⟩:=ht g hg;exact ⟨cur,hk.heap hc (fun hm=>by obtain⟨c2,hc2⟩:=hF g hm;exact ty_ne ht hc2 hg)⟩
theorem OBS.ty {w0 w:World} {v:Value} {l:List StV} (h:OB StV.cells 65 13 w0 w v l):∀ g,v.ownBlock=some g→∃ cur,w.heap[g]? = some (.cells cur 65):=fun g hg=>by
 rcases h.row.2 with ⟨hv,_⟩|⟨b,cap,cur,hv,_,hb,_⟩
 ·rw [hv] at hg;cases hg
 rw [hv] at hg;injection hg with hg;subst hg;exact ⟨cur,hb⟩
theorem StsP.ty {w w':World} {l:List EvA} {svs:List StV} {F:List Nat} (h:StsP w l svs) (hF:∀ g∈F,∃ cur,w.heap[g]? = some (.cells cur 65)) (hk:Keep F w w'):StsP w' l svs:=by
 refine ⟨h.1,fun p hp=>?_,fun x hx=>?_⟩
 ·have h2:=h.2.1 p hp
  obtain⟨x,hx,rfl⟩:=List.mem_map.1 hp;exact ⟨(IvR.laterTy h2.1 (h.2.2 x hx) hF hk).1,h2.2⟩
 exact (IvR.laterTy (h.2.1 _ (List.mem_map_of_mem hx)).1 (h.2.2 x hx) hF hk).2
theorem Ls.ty1 {w w':World} {v:Value} {l:List (Iv K)} {F:List Nat} (h:Ls w [(v,l)]) (ht:TyI w v) (hF:∀ g∈F,∃ cur,w.heap[g]? = some (.cells cur 65)) (hk:Keep F w w'):Ls w' [(v,l)]∧TyI w' v:=by
 have h0:=h _ (List.mem_singleton.2 rfl);have h1:=IvR.laterTy h0.1 ht hF hk;refine ⟨fun p hp=>?_,h1.2⟩;rw [List.mem_singleton] at hp;subst hp;exact ⟨h1.1,h0.2⟩
theorem evD_len (e:EvA):(evD e).length≤16:=by
 have:=Norm.len (show Norm (evD e) from yau _ _ _) (evD_pts e)
 have h8:=yhc e;omega
theorem yeG (n:Nat) (m:Int) (h0:0<m) (h:m≤1000):IntKind.i64.wrap ((n:Int).tmod m)=(n:Int) % m:=by
 rw [Int.tmod_eq_emod_of_nonneg (by omega)];have h1:=Int.emod_nonneg (n:Int) (show m≠0 by omega)
 have h2:=Int.emod_lt_of_pos (n:Int) h0;exact IntWalk.i64_in _ (by omega)
theorem ev_take (e:EvA) {k:Nat} (hk:k≤e.ps.length) (hk4:k≤4) (h:¬ (k<e.ps.length∧k<4)):(e.ps.take k).map (ych e.o)=evL e:=by
 unfold evL;by_cases h4:k=4
 ·rw [h4]
 have:k=e.ps.length:=by omega
 subst this;rw [List.take_length,List.take_of_length_le (by omega)]
theorem evL_val (e:EvA):∀ i∈evL e,i.f<i.l:=fun i hi=>by
 unfold evL at hi;obtain⟨p,_,rfl⟩:=List.mem_map.1 hi;exact partI_val _ _
theorem yfH {l:List EvA} {i:Nat} (h:i<l.length) (h4:i<4):yaW (l.take (i+1))=yaW (l.take i)++[evS i l[i]]:=by
 unfold yaW;have e1:(l.take (i+1)).take 4=l.take (i+1):=List.take_of_length_le (by rw [List.length_take];omega);have e2:(l.take i).take 4=l.take i:=List.take_of_length_le (by rw [List.length_take];omega);rw [e1,e2,List.take_succ_eq_append_getElem h,List.mapIdx_append];simp [Nat.min_eq_left (Nat.le_of_lt h)]
theorem Steps_c (l:List EvA) (w:World) (sv:Value) (hr:EvsAt w sv l) :
  Calls prog 38 #[sv] w fun e w'=>∃ v svs,e = .returned v∧StR w' v svs∧stS svs=yaW l∧Below w.heap.size w w':=by
 have HR:=jX hr;obtain⟨ao,ac,rfl,hl9⟩:=hr.form;have hl9:l.length≤9223372036854775807:=by unfold maxLen at hl9;exact hl9
 clear hr;go_enter func38,ntmps38
 go_wp2_with fail;go_loopw [3,4] (fun ov c wr=>∃ (i:Nat) (svs:List StV),i≤l.length∧i≤4∧c = .int .i64 (i:Int)∧OBS w wr ov svs∧StsP wr (l.take i) svs) (fun _ c _=>l.length-(intOf c).toNat)
 case atStart=>exact ⟨0,[],Nat.zero_le _,by omega,rfl,OB.nil w,rfl,Ls.nil _,by simp⟩
 case round =>
  obtain⟨i,svs,hi,hi4,rfl,hov,hst⟩:=hrel;rename World=>wo;have HO:=jX hov;have HS:=jX hst;obtain⟨oo,oc,rfl⟩:=hov.form;clear hov hst;by_cases hlt:i<l.length∧i<4
  ·obtain⟨hlt,hlt4⟩:=hlt
   obtain⟨g,o,pa,pc,rfl,hg,hat,hps⟩:=EvsAt.elem (HR.out.later HO.out.keep) i hlt;have hic:(i:Int)<(l.length:Int):=by omega
   have hic4:(i:Int)<4:=by omega
   obtain⟨e,he⟩:∃ e,l[i]=e:=⟨_,rfl⟩;rw [he] at hat hps;obtain⟨p,hp⟩:∃ p,o+i*5=p:=⟨_,rfl⟩;rw [hp] at hat;have HL:=jX (load_fv wo g p _ e hat);have HPs:=jX hps;have He:=jX he;clear hat hps he;go_upto_region 5 with (fail)
   refine wp_region_lit ?_;refine wV ?_;go_simp;refine wV ?_;go_simp;refine wV ?_;go_simp;refine wX (v:=.agg (fvcells (.slice pa e.ps.length pc) e).toArray) ⟨g,p,none⟩ (HL.out) ?_;go_simp;refine wA (al_fv _ _ _ rfl) (fun w1 gx e2 bgx hgx _ hk1=>?_);go_simp;refine ybm (by rfl) _ _ _ rfl gx (fvcells (.slice pa e.ps.length pc) e).toArray rfl rfl _ _ bgx (by exact fv_size _ e) (by rfl) (fv_ones _ _ _ e) (fun K hK=>?_);obtain⟨w2,e4,b4,k4⟩:=yaL (cs:=(fvcells (.slice pa e.ps.length pc) e).toArray) bgx;rw [e4];go_simp;go_step
   clear e4 HL;have hkk:=show Keep [] wo w2 from hk1.trans k4 (by simp;omega)
   have HO:=jX (HO.out.later hkk.bz);have HS:=jX (HS.out.grow hkk.bz);have HPs:=jX (HPs.out.later hkk.bz);have Bgx:=jX (show w2.heap[gx]? = some (.cells #[.slice pa e.ps.length pc,.int .u8 e.o,.int .u8 e.g,.int .u8 e.w,.int .u8 e.r] 80) from b4)
   clear hkk hk1 k4 b4 bgx
   have hpl:e.ps.length≤9223372036854775807:=by
    obtain⟨_,_,_,h⟩:=HPs.out.form;unfold maxLen at h;exact h
   go_upto_block 2 with (fail)
   go_cut [6] (fun pv wx=>∃ po pc,pv = .slice po (evL e).length pc∧OBI w2 wx pv (evL e))
   case first =>
    go_wp2_with fail;go_loopw [6,7] (fun pv c wi=>∃ k:Nat,k≤e.ps.length∧k≤4∧c = .int .i64 (k:Int)∧OBI w2 wi pv ((e.ps.take k).map (ych e.o))) (fun _ c _=>e.ps.length-(intOf c).toNat)
    case atStart=>exact ⟨0,Nat.zero_le _,by omega,rfl,OB.nil w2⟩
    case round =>
     obtain⟨k,hk,hk4,rfl,hpv⟩:=hrel;obtain⟨out,hout⟩:∃ out,(e.ps.take k).map (ych e.o)=out:=⟨_,rfl⟩;rw [hout] at hpv;have Hout:=jX hout;have Hlen:=jX (show out.length≤4 by rw [← hout,List.length_map,List.length_take];omega)
     have HI:=jX hpv;obtain⟨po,pc2,rfl⟩:=hpv.form;clear hpv hout;have Bgx2:=jX ((HI.out.keep.block gx (yaa Bgx.out)).trans Bgx.out);by_cases hkt:k<e.ps.length∧k<4
     ·obtain⟨hkt,hkt4⟩:=hkt
      obtain⟨b,ob,rfl,hb,qa,qb⟩:=PartsAt.elem (HPs.out.later HI.out.keep) k hkt;have hkc:(k:Int)<(e.ps.length:Int):=by omega
      have hkc4:(k:Int)<4:=by omega
      obtain⟨q,hq⟩:∃ q,e.ps[k]=q:=⟨_,rfl⟩;rw [hq] at qa qb;obtain⟨r,hr⟩:∃ r,ob+k*2=r:=⟨_,rfl⟩;rw [hr] at qa qb;have Hq:=jX hq;clear hq;have pgx:=yab Bgx2.out;have HA:Hid (∀ u,Calls prog 52 #[.int .i64 ((q.a:Int) % 64),.int .i64 2] u fun e w'=>e = .returned (.tuple #[rv (half ((q.a % 64:Nat):Int)),.int .i64 0])∧Keep [] u w'):=fun u=>yhe ((q.a % 64:Nat):Int) (by omega) u;have HFr:Hid (∀ u,Calls prog 84 #[rv (half ((q.a % 64:Nat):Int))] u fun e w'=>e = .returned (.agg (kC (loK q)))∧Keep [] u w'):=fun u=>FromRat_c (half ((q.a % 64:Nat):Int)) ((yfa q).1.mono (by decide)) u;have HBd:=jX (yeJ (loK q) (loK q));rw [show kv (loK q) = .agg (kC (loK q)) from rfl] at HBd
      go_wp2_with fail;unfold rv at HA HFr;obtain⟨n1,hn1⟩:∃ x,sgB (half ((q.a % 64:Nat):Int)).num=x:=⟨_,rfl⟩;obtain⟨s1,hs1⟩:∃ x,mgS (half ((q.a % 64:Nat):Int)).num=x:=⟨_,rfl⟩;obtain⟨d1,hd1⟩:∃ x,dnS (half ((q.a % 64:Nat):Int)).den=x:=⟨_,rfl⟩;rw [hn1,hs1,hd1] at HA HFr;have Hn1:=jX (And.intro hn1 (And.intro hs1 hd1));clear hn1 hs1 hd1;refine (HA.out _).mono ?_;rintro e9 w3 ⟨rfl,hk3⟩;dsimp only;have HI:=jX (HI.out.later hk3.bz);have Bgx2:=jX (hk3.heap Bgx2.out (by simp));have qb:=(World.cell?_of_block (hk3.block b hb (by simp))).trans qb;have hb:=Nat.lt_of_lt_of_le hb hk3.size;clear hk3 pgx qa HA;go_upto_region 11 with (fail)
      obtain⟨W2,g8,hW2,eg8,bg8,hg8,hgW2,hkW2⟩:=al1 w3 (.cells #[.bool n1,.string s1,.bool false,.string d1] 28);rw [← hW2];try rw [eg8]
      have Bg8:=jX bg8;clear hW2 eg8 bg8;have HI:=jX (HI.out.later hkW2.bz);have Bgx2:=jX (hkW2.heap Bgx2.out (by simp));have qb:=(World.cell?_of_block (hkW2.block b hb (by simp))).trans qb;have hb:=Nat.lt_of_lt_of_le hb hkW2.size;clear hkW2;refine yaF 6 [(10,32)] (fun _=>.cells #[.bool false,.string ⟨#[]⟩,.bool false,.string ⟨#[]⟩,.bool false,.string ⟨#[]⟩,.bool false,.string ⟨#[]⟩,.bool false,.bool false,.string ⟨#[]⟩,.bool false,.string ⟨#[]⟩,.bool false,.string ⟨#[]⟩,.bool false,.string ⟨#[]⟩,.bool false,.bool false,.bool false] 32) (by kernel_rfl) (by kernel_rfl) (by kernel_rfl) (fun t ht ev w o ho=>by simp at ht;subst ht;exact ygi ev w o ho) ?_;intro U hU;have kg8:=yag (hU.heap Bg8.out (by simp));generalize hkl:kC (loK q)=KL at *;have Hkl:=jX hkl;clear hkl;have Q1:Hid (∀ m:KW U,Calls prog 84 #[.agg #[.bool n1,.string s1,.bool false,.string d1]] (Wk U m) fun e w'=>e = .returned (.agg KL)∧∃ m,w'=Wk U m):=fun m=>qk m (HFr.out _);simp only [List.map_cons,List.map_nil,unal,isAl,if_true,if_false,Bool.false_eq_true,List.take_succ_cons,List.take_zero]
      repeat (first
       | go_big_quiet_skip
       | (go_big_quiet_want;first
        | (refine ybo _ _ #[(0,.agg KL),(1,.agg KL)] ((iC ⟨⟨loK q,false⟩,⟨loK q,true⟩⟩)) rfl (by simp only [List.map_toArray,List.map_cons,List.map_nil];rfl) HBd.out ?_;go_simp;go_big_quiet_on)
        | (go_big_quiet_op;first|go_big_quiet_on|go_big_quiet_call (first
         | (go_at_call 84;with_reducible exact (Q1).out _)))))
      refine wpQuiet_nil ?_;intro p hp1 hp2 w4 hk_w4 hz;have bgx:=hz (10,32) (by simp);have hgx:=hp1 10 (by simp);simp only [List.map_cons,List.map_nil,pl,List.drop_succ_cons,List.drop_zero];dsimp only at bgx;generalize p 10=gi at *;have Bgi:=jX bgx;have hgi:=hgx;clear hz hp1 hp2 bgx hgx;have hib:w2.heap.size≤gi:=by have:=HI.out.keep.size;omega
      have Hne:=jX (fun b hb=>Nat.lt_of_lt_of_le (HI.out.own_lt b hb) hgi);have h8l:g8<gi:=Nat.lt_of_lt_of_le (yaa Bg8.out) hgi;have hgxl:gx<gi:=Nat.lt_of_lt_of_le (yaa Bgx2.out) hgi;have hI0:(⟨⟨loK q,false⟩,⟨loK q,true⟩⟩:Iv K)=⟨⟨loK q,false⟩,⟨loK q,true⟩⟩:=rfl;obtain⟨I0,hI⟩:∃ I,(⟨⟨loK q,false⟩,⟨loK q,true⟩⟩:Iv K)=I:=⟨_,rfl⟩;rw [hI];refine wR gi (iC I0) Bgi.out (by exact ybL I0) (by rfl) (ybP I0) (fun w5 b5 k5=>?_);go_simp;refine fO ?_;have HkA:=jX (hk_w4.trans k5 (by simp;omega));have HI:=jX (HI.out.later (HkA.out).bz);have Bgx2:=jX ((HkA.out).heap Bgx2.out (by simp));have qb:=(World.cell?_of_block ((HkA.out).block b hb (by simp))).trans qb;have hb:=Nat.lt_of_lt_of_le hb (HkA.out).size;have Bg8:=jX (HkA.out.heap Bg8.out (by simp));have Bgi:=jX b5;have HI0:=jX hI;clear hk_w4 k5 b5 hU kg8 Q1 HFr HBd hI hI0 U p HkA;have pgx:=yab Bgx2.out;by_cases hz:q.b % 16=0
      ·have hz0:(q.b:Int) % 16=0:=by omega
       have Hz:=jX hz;clear hz;have Hpt:Hid (ych e.o q=I0):=jX (by unfold ych;rw [if_pos Hz.out];exact HI0.out);go_upto_region 19 with (fail)
       have Hst:Hid ((e.ps.take (k+1)).map (ych e.o)=out++[I0]):=jX (by
        rw [ydC (ych e.o) e.ps k hkt,Hout.out,Hq.out]
        exact congrArg (fun x=>out++[x]) Hpt.out)
       refine wp_region_lit ?_;refine wV ?_;go_simp;refine wX (v:=iv I0) ⟨gi,0,none⟩ ((yaJ w5 gi 0 I0 (yao Bgi.out))) ?_;go_simp;refine fO ?_;obtain⟨ub,e6,v4,u4,hr4,ho4⟩:=OBI.app I0 HI.out (by have:=Hlen.out;omega);refine yar (v:=.slice (some ⟨World.heap w5 |>.size,0,none⟩) 1 1) (by rfl) (yaV 22 1 #[(0,.tmp 103)] #[(0,iv I0)] _ rfl (by simp only [List.map_toArray,List.map_cons,List.map_nil];rfl) (ybl _ _)) (fun K hK=>?_);rw [e6];clear e6;go_simp;go_step
       refine yar (by rfl) (ybj (.tmp 102) (.tmp 104) 22 _ _ _ rfl rfl rfl hr4) (fun K hK=>?_);go_simp;go_step
       clear hr4;have HN4:=jX ho4;obtain⟨no,nc,rfl⟩:=ho4.form;clear ho4;go_wp2_with fail;go_roundw
       case rel=>exact ⟨k+1,by omega,by omega,congrArg (Value.int .i64) (by omega),by rw [Hst.out];exact HN4.out⟩
       case measure=>simp [intOf];omega
      have hz0:(0:Int)<(q.b:Int) % 16:=by omega
      have Hz:=jX hz;clear hz;have HB2:Hid (∀ u,Calls prog 52 #[.int .i64 ((q.b:Int) % 16),.int .i64 2] u fun e w'=>e = .returned (.tuple #[rv (half ((q.b % 16:Nat):Int)),.int .i64 0])∧Keep [] u w'):=fun u=>yhe ((q.b % 16:Nat):Int) (by omega) u;have HSh:Hid (∀ u,Calls prog 54 #[.agg (kC (loK q)),rv (half ((q.b % 16:Nat):Int))] u fun e w'=>e = .returned (.agg (kC (mvK (half ((q.b % 16:Nat):Int)) (loK q))))∧Keep [] u w'):=fun u=>ycC (lo_sm q) (by omega) (b_fit q) u;rw [Hkl.out] at HSh;have HSv:Hid (¬ 6≤e.o % 8→mvK (half ((q.b % 16:Nat):Int)) (loK q)=hiK e.o q):=sh_hi;obtain⟨H1,hH1⟩:∃ H1,mvK (half ((q.b % 16:Nat):Int)) (loK q)=H1:=⟨_,rfl⟩;rw [hH1] at HSh HSv;clear hH1;unfold rv at HB2 HSh;generalize sgB (half ((q.b % 16:Nat):Int)).num=n2 at *;generalize mgS (half ((q.b % 16:Nat):Int)).num=s2 at *;generalize dnS (half ((q.b % 16:Nat):Int)).den=d2 at *;go_wp2_with fail;refine (HB2.out _).mono ?_;rintro e9 w6 ⟨rfl,hk6⟩;dsimp only;clear pgx;have HI:=jX (HI.out.later (hk6).bz);have Bgx2:=jX ((hk6).heap Bgx2.out (by simp));have qb:=(World.cell?_of_block ((hk6).block b hb (by simp))).trans qb;have hb:=Nat.lt_of_lt_of_le hb (hk6).size;have Bg8:=jX (hk6.heap Bg8.out (by simp));have Bgi:=jX (hk6.heap Bgi.out (by simp));clear hk6 HB2 qb;go_upto_region 15 with (fail)
      obtain⟨W2,g12,hW2,eg12,bg12,hg12,hgW2,hkW2⟩:=al1 w6 (.cells #[.bool n2,.string s2,.bool false,.string d2] 28);rw [← hW2];try rw [eg12]
      have Bg12:=jX bg12;clear hW2 eg12 bg12;have HI:=jX (HI.out.later hkW2.bz);have Bgx2:=jX (hkW2.heap Bgx2.out (by simp));have Bg8:=jX (hkW2.heap Bg8.out (by simp));have Bgi:=jX (hkW2.heap Bgi.out (by simp));clear hkW2
      have HLf:Hid ((loadVar 30 ⟨gi,0,none⟩).run prog W2 = .ok (.agg KL) W2):=by
       have:=yax W2 gi 0 I0.f.pt.1 (yao Bgi.out).frm;rw [← HI0.out] at this;rw [← Hkl.out];exact this
      have pg12:=yab Bg12.out;refine wp_region_lit ?_;refine wV ?_;go_simp;refine wX (v:=.agg KL) ⟨gi,0,none⟩ (HLf.out) ?_;go_simp;refine wV ?_;go_simp;refine wpList_plain (by rfl) (fun K hK=>?_);refine yaf 54 #[.agg KL,.agg #[.bool n2,.string s2,.bool false,.string d2]] (by go_simp) ?_;refine (HSh.out _).mono ?_;rintro e9 w7 ⟨rfl,hk7⟩;refine ⟨_,rfl,?_⟩;go_simp;go_step
      clear pg12 HLf HSh Bg12;have HI:=jX (HI.out.later hk7.bz);have Bgx2:=jX (hk7.heap Bgx2.out (by simp));have Bg8:=jX (hk7.heap Bg8.out (by simp));have Bgi:=jX (hk7.heap Bgi.out (by simp));clear hk7;refine wV ?_;go_simp;refine fO ?_;have F2:=ybg H1;refine yaN (by rfl) _ _ _ rfl gi 9 (kC H1) rfl rfl (ybb Bgi.out _ _ (by rw [F2.2.1];exact (by decide:9+9≤20))) (by rw [F2.2.1];exact k_size) F2.2.2 (fun K hK=>?_);obtain⟨b8,k8⟩:=yaw (kC H1).toList 9 _ w7 Bgi.out;generalize World.setCells w7 gi 9 (kC H1).toList=w8 at *;go_simp;go_step
      clear F2;have hput:ybv (iC I0) 9 (kC H1).toList=iC ⟨I0.f,⟨H1,I0.l.beh⟩⟩:=putTo I0 ⟨I0.f,⟨H1,I0.l.beh⟩⟩ rfl rfl;rw [hput] at b8;have HI:=jX (HI.out.laterBox k8 hib Hne.out);have hgx:gx≠gi:=by have:=yaa Bgx.out;omega
      have Bgx2:=jX (k8.heap Bgx2.out (by simp;exact hgx));have h8i:g8≠gi:=by omega
      have Bg8:=jX (k8.heap Bg8.out (by simp;exact h8i));obtain⟨I1,hI1⟩:∃ I1,(⟨I0.f,⟨H1,I0.l.beh⟩⟩:Iv K)=I1:=⟨_,rfl⟩;rw [hI1] at b8;have Bgi:=jX b8;have HI1:=jX hI1;clear b8 k8 hput hI1;have pgx:=yab Bgx2.out;by_cases hr6:6≤e.o % 8
      ·have hz6:(6:Int)≤(e.o:Int) % 8:=by omega
       have Hr6:=jX hr6;clear hr6
       have HMk:Hid (∀ u,Calls prog 104 #[rv (half ((q.a % 64:Nat):Int)),rv ((((q.b % 16:Nat):Int)):Rat),rv (2:Rat)] u fun e' w'=>e' = .returned (.tuple #[.agg (kC (hiK e.o q)),.int .i64 0])∧Below u.heap.size u w'):=fun u=>by
        have:=Make2_c (half ((q.a % 64:Nat):Int)) ((ybk (by omega)).mono (by decide)) ((q.b % 16:Nat):Int) (by omega) (by omega) u;have e1:hiQ e.o q=⟨half ((q.a % 64:Nat):Int),(((q.b % 16:Nat):Int):Rat)*((q.b % 16:Nat):Int)*2,false⟩:=by unfold hiQ;rw [if_pos Hr6.out]
        rw [← e1] at this;exact this
       have HI3:Hid (∀ u,Calls prog 102 #[.int .i64 ((q.b:Int) % 16)] u fun e' w'=>e' = .returned (rv ((((q.b % 16:Nat):Int)):Rat))∧Keep [] u w'):=fun u=>QFromInt_c ((q.b % 16:Nat):Int) (by omega) (by omega) u;have HI4:Hid (∀ u,Calls prog 102 #[.int .i64 2] u fun e' w'=>e' = .returned (rv (2:Rat))∧Keep [] u w'):=fun u=>QFromInt_c 2 (by decide) (by decide) u;unfold rv at HMk HI3 HI4;rw [show sgB (half ((q.a % 64:Nat):Int)).num=n1 from Hn1.out.1,show mgS (half ((q.a % 64:Nat):Int)).num=s1 from Hn1.out.2.1,show dnS (half ((q.a % 64:Nat):Int)).den=d1 from Hn1.out.2.2] at HMk
       generalize sgB (((((q.b % 16:Nat):Int)):Rat)).num=n3 at *;generalize mgS (((((q.b % 16:Nat):Int)):Rat)).num=s3 at *;generalize dnS (((((q.b % 16:Nat):Int)):Rat)).den=d3 at *;generalize sgB ((2:Rat)).num=n4 at *;generalize mgS ((2:Rat)).num=s4 at *;generalize dnS ((2:Rat)).den=d4 at *;have HK2:=jX (ybg (hiK e.o q));have hput:ybv (iC I1) 9 (kC (hiK e.o q)).toList=iC ⟨I1.f,⟨hiK e.o q,I1.l.beh⟩⟩:=putTo I1 ⟨I1.f,⟨hiK e.o q,I1.l.beh⟩⟩ rfl rfl;have HPut:=jX hput;clear hput;go_upto_region 17 with (fail)
       refine ybX (S:=fun u=>Below gi w8 u) 10 (by kernel_rfl) (by kernel_rfl) (fun _ _ d _ _ h=>by cases d<;>exact h) ?_;have hS0:Below gi w8 (World.drew w8):=Below.mono (Keep.drew [] w8).bz (Nat.le_of_lt (yaa Bgi.out));have Bu:=jX ((Keep.drew [] w8).heap Bgi.out (by simp));generalize World.drew w8=u at *;refine' jG (v:=_) 0 hS0 (fun w hw=>?hmk0) (fun K hK=>?kmk0)
       case hmk0=>(have p8:=yab ((hw.block g8 h8l).trans Bg8.out);go_simp;try rfl)
       go_simp;go_step
       refine tV 1 hS0 ?_;go_simp;refine jP 2 (fun K hK=>?_);refine yaf 102 #[.int .i64 ((q.b:Int) % 16)] (by go_simp) ?_;refine (HI3.out _).mono ?_;rintro e9 u1 ⟨rfl,hk⟩;have hS0:=hS0.trans (Below.mono hk.bz (Nat.le_of_lt (yaa Bu.out)));have Bu:=jX (hk.heap Bu.out (by simp));clear hk;refine ⟨_,rfl,?_⟩;go_simp;refine hK _ _ hS0 ?_;clear hK K;refine jP 3 (fun K hK=>?_);refine yaf 102 #[.int .i64 2] (by go_simp) ?_;refine (HI4.out _).mono ?_;rintro e9 u2 ⟨rfl,hk⟩;have hS0:=hS0.trans (Below.mono hk.bz (Nat.le_of_lt (yaa Bu.out)));have Bu:=jX (hk.heap Bu.out (by simp));clear hk;refine ⟨_,rfl,?_⟩;go_simp;refine hK _ _ hS0 ?_;clear hK K;refine jP 4 (fun K hK=>?_);refine yaf 104 #[.agg #[.bool n1,.string s1,.bool false,.string d1],.agg #[.bool n3,.string s3,.bool false,.string d3],.agg #[.bool n4,.string s4,.bool false,.string d4]] (by go_simp) ?_;refine (HMk.out _).mono ?_;rintro e9 u3 ⟨rfl,hb9⟩;have hS0:=hS0.trans (Below.mono hb9 (Nat.le_of_lt (yaa Bu.out)));have Bu:=jX ((hb9.block gi (yaa Bu.out)).trans Bu.out);clear hb9;refine ⟨_,rfl,?_⟩;go_simp;refine hK _ _ hS0 ?_;clear hK K HI3 HI4 HMk;refine tV 5 hS0 ?_;go_simp;refine tV 6 hS0 ?_;go_simp;refine tV 7 hS0 ?_;go_simp;refine tV 8 hS0 ?_;go_simp;refine jO 9 (fun K hK=>?_);refine wp_store_mid _ _ _ rfl gi 9 (kC (hiK e.o q)) rfl rfl (ybb Bu.out _ _ (by rw [HK2.out.2.1];exact (by decide:9+9≤20))) (by rw [HK2.out.2.1];exact k_size) HK2.out.2.2 ?_;obtain⟨b9,k9⟩:=yaw (kC (hiK e.o q)).toList 9 _ u3 Bu.out;generalize World.setCells u3 gi 9 (kC (hiK e.o q)).toList=w9 at *;rw [HPut.out] at b9;go_simp;refine hK _ _ (hS0.trans (k9.below (by simp) (Nat.le_of_lt (yaa Bu.out)))) ?_;clear hK K;refine ⟨by kernel_rfl,?_⟩;have hS1:=hS0.trans (k9.below (by simp) (Nat.le_of_lt (yaa Bu.out)));have HI:=jX (HI.out.laterP hS1 hib Hne.out);have Bgx2:=jX ((hS1.block gx hgxl).trans Bgx2.out);have hJ:(⟨I1.f,⟨hiK e.o q,I1.l.beh⟩⟩:Iv K)=⟨⟨loK q,false⟩,⟨hiK e.o q,true⟩⟩:=by rw [← HI1.out,← HI0.out]
       rw [hJ] at b9;have Bgi:=jX b9;clear b9 k9 hS1 hS0 Bu hJ HPut HK2 pgx Bg8;simp only [List.drop_succ_cons,List.drop_zero];obtain⟨bf,hbf⟩:∃ b,decide (e.o % 2=1)=b:=⟨_,rfl⟩;obtain⟨bt,hbt⟩:∃ b,decide (2≤e.o % 4)=b:=⟨_,rfl⟩
       have hb1:((e.o:Int).tmod 2 == 1)=bf:=by
        rw [← hbf,Int.tmod_eq_emod_of_nonneg (by omega),Bool.eq_iff_iff,beq_iff_eq,decide_eq_true_iff];omega
       have hb2:decide ((2:Int)≤(e.o:Int).tmod 4)=bt:=by
        rw [← hbt,Int.tmod_eq_emod_of_nonneg (by omega),Bool.eq_iff_iff,decide_eq_true_iff,decide_eq_true_iff];omega
       have Hbf:=jX (And.intro hbf hbt);clear hbf hbt;obtain⟨J,hJ⟩:∃ J,(⟨⟨loK q,false⟩,⟨hiK e.o q,true⟩⟩:Iv K)=J:=⟨_,rfl⟩;rw [hJ] at Bgi;have HJ:=jX hJ;clear hJ;go_upto_region 18 with (fail)
       try clear pgx
       refine ybX (S:=fun u=>Below gi w9 u) 12 (by kernel_rfl) (by kernel_rfl) (fun _ _ d _ _ h=>by cases d<;>exact h) ?_;have hS0:Below gi w9 (World.drew w9):=Below.mono (Keep.drew [] w9).bz (Nat.le_of_lt (yaa Bgi.out));have Bu:=jX ((Keep.drew [] w9).heap Bgi.out (by simp));generalize World.drew w9=v1 at *;refine tV 0 hS0 ?_;go_simp;refine' jG (v:=_) 1 hS0 (fun w hw=>?hfr1) (fun K hK=>?kfr1)
       case hfr1=>(have px:=yab ((hw.block gx hgxl).trans Bgx2.out);go_simp;try rfl)
       go_simp;go_step
       refine tV 2 hS0 ?_;go_simp;refine tV 3 hS0 ?_;go_simp;refine tV 4 hS0 ?_;go_simp;refine' jG (v:=_) 5 hS0 (fun w hw=>?hfr5) (fun K hK=>?kfr5)
       case hfr5=>(have px:=yab ((hw.block gx hgxl).trans Bgx2.out);go_simp;try rfl)
       go_simp;go_step
       refine tV 6 hS0 ?_;go_simp;refine tV 7 hS0 ?_;go_simp;refine tV 8 hS0 ?_;go_simp;refine jO 9 (fun K hK=>?_);obtain⟨v2,ev2,bv2,kv2⟩:=ybz (v:=.bool bf) Bu.out (i:=18) (by exact (by decide:18<20));have q18:v1.cell? ⟨gi,18,none⟩=some (.bool J.f.beh):=(yao Bu.out).opf;have f18:=yai Bu.out;have l18:=yaa Bu.out;go_simp;have hS0:=hS0.trans (kv2.below (by simp) (Nat.le_of_lt l18));refine hK _ _ hS0 ?_;clear hK K q18 f18 l18 ev2 kv2;refine tV 10 hS0 ?_;go_simp;refine jO 11 (fun K hK=>?_);obtain⟨v3,ev3,bv3,kv3⟩:=ybz (v:=.bool bt) bv2 (i:=19) (by rw [Array.size_setIfInBounds];exact (by decide:19<20))
       have q19:v2.cell? ⟨gi,19,none⟩=some (.bool (!J.l.beh)):=by
        rw [yab bv2,Array.getElem?_setIfInBounds_ne (by decide)];rfl
       have f19:=yai bv2;have l19:=yaa bv2;go_simp;have hS0:=hS0.trans (kv3.below (by simp) (Nat.le_of_lt l19));refine hK _ _ hS0 ?_;clear hK K q19 f19 l19 ev3 kv3;refine ⟨by kernel_rfl,?_⟩;simp only [List.drop_succ_cons,List.drop_zero];rw [← HJ.out,yhf] at bv3;have HI:=jX (HI.out.laterP hS0 hib Hne.out);have Bgi:=jX bv3;clear bv3 bv2 Bu hS0;obtain⟨T,hT⟩:∃ T,(⟨⟨loK q,bf⟩,⟨hiK e.o q,!bt⟩⟩:Iv K)=T:=⟨_,rfl⟩;rw [hT] at Bgi;have Hpt:Hid (ych e.o q=T):=jX (by unfold ych;rw [if_neg Hz.out,Hbf.out.1,Hbf.out.2];exact hT);clear hT;go_upto_region 19 with (fail)
       have Hst:Hid ((e.ps.take (k+1)).map (ych e.o)=out++[T]):=jX (by
        rw [ydC (ych e.o) e.ps k hkt,Hout.out,Hq.out]
        exact congrArg (fun x=>out++[x]) Hpt.out)
       refine wp_region_lit ?_;refine wV ?_;go_simp;refine wX (v:=iv T) ⟨gi,0,none⟩ ((yaJ v3 gi 0 T (yao Bgi.out))) ?_;go_simp;refine fO ?_;obtain⟨ub,e6,v4,u4,hr4,ho4⟩:=OBI.app T HI.out (by have:=Hlen.out;omega);refine yar (v:=.slice (some ⟨World.heap v3 |>.size,0,none⟩) 1 1) (by rfl) (yaV 22 1 #[(0,.tmp 103)] #[(0,iv T)] _ rfl (by simp only [List.map_toArray,List.map_cons,List.map_nil];rfl) (ybl _ _)) (fun K hK=>?_);rw [e6];clear e6;go_simp;go_step
       refine yar (by rfl) (ybj (.tmp 102) (.tmp 104) 22 _ _ _ rfl rfl rfl hr4) (fun K hK=>?_);go_simp;go_step
       clear hr4;have HN4:=jX ho4;obtain⟨no,nc,rfl⟩:=ho4.form;clear ho4;go_wp2_with fail;go_roundw
       case rel=>exact ⟨k+1,by omega,by omega,congrArg (Value.int .i64) (by omega),by rw [Hst.out];exact HN4.out⟩
       case measure=>simp [intOf];omega
      have hz6:¬ (6:Int)≤(e.o:Int) % 8:=by omega
      have Hr6:=jX hr6;clear hr6;have hJ:I1=⟨⟨loK q,false⟩,⟨hiK e.o q,true⟩⟩:=by rw [← HI1.out,← HI0.out,HSv.out Hr6.out]
      have Bgi:=jX (show w8.heap[gi]? = some (.cells (iC ⟨⟨loK q,false⟩,⟨hiK e.o q,true⟩⟩) 32) by rw [← hJ];exact Bgi.out)
      clear hJ Bg8;obtain⟨bf,hbf⟩:∃ b,decide (e.o % 2=1)=b:=⟨_,rfl⟩;obtain⟨bt,hbt⟩:∃ b,decide (2≤e.o % 4)=b:=⟨_,rfl⟩
      have hb1:((e.o:Int).tmod 2 == 1)=bf:=by
       rw [← hbf,Int.tmod_eq_emod_of_nonneg (by omega),Bool.eq_iff_iff,beq_iff_eq,decide_eq_true_iff];omega
      have hb2:decide ((2:Int)≤(e.o:Int).tmod 4)=bt:=by
       rw [← hbt,Int.tmod_eq_emod_of_nonneg (by omega),Bool.eq_iff_iff,decide_eq_true_iff,decide_eq_true_iff];omega
      have Hbf:=jX (And.intro hbf hbt);clear hbf hbt;obtain⟨J,hJ⟩:∃ J,(⟨⟨loK q,false⟩,⟨hiK e.o q,true⟩⟩:Iv K)=J:=⟨_,rfl⟩;rw [hJ] at Bgi;have HJ:=jX hJ;clear hJ;go_upto_region 18 with (fail)
      try clear pgx
      refine ybX (S:=fun u=>Below gi w8 u) 12 (by kernel_rfl) (by kernel_rfl) (fun _ _ d _ _ h=>by cases d<;>exact h) ?_;have hS0:Below gi w8 (World.drew w8):=Below.mono (Keep.drew [] w8).bz (Nat.le_of_lt (yaa Bgi.out));have Bu:=jX ((Keep.drew [] w8).heap Bgi.out (by simp));generalize World.drew w8=v1 at *;refine tV 0 hS0 ?_;go_simp;refine' jG (v:=_) 1 hS0 (fun w hw=>?hfs1) (fun K hK=>?kfs1)
      case hfs1=>(have px:=yab ((hw.block gx hgxl).trans Bgx2.out);go_simp;try rfl)
      go_simp;go_step
      refine tV 2 hS0 ?_;go_simp;refine tV 3 hS0 ?_;go_simp;refine tV 4 hS0 ?_;go_simp;refine' jG (v:=_) 5 hS0 (fun w hw=>?hfs5) (fun K hK=>?kfs5)
      case hfs5=>(have px:=yab ((hw.block gx hgxl).trans Bgx2.out);go_simp;try rfl)
      go_simp;go_step
      refine tV 6 hS0 ?_;go_simp;refine tV 7 hS0 ?_;go_simp;refine tV 8 hS0 ?_;go_simp;refine jO 9 (fun K hK=>?_);obtain⟨v2,ev2,bv2,kv2⟩:=ybz (v:=.bool bf) Bu.out (i:=18) (by exact (by decide:18<20));have q18:v1.cell? ⟨gi,18,none⟩=some (.bool J.f.beh):=(yao Bu.out).opf;have f18:=yai Bu.out;have l18:=yaa Bu.out;go_simp;have hS0:=hS0.trans (kv2.below (by simp) (Nat.le_of_lt l18));refine hK _ _ hS0 ?_;clear hK K q18 f18 l18 ev2 kv2;refine tV 10 hS0 ?_;go_simp;refine jO 11 (fun K hK=>?_);obtain⟨v3,ev3,bv3,kv3⟩:=ybz (v:=.bool bt) bv2 (i:=19) (by rw [Array.size_setIfInBounds];exact (by decide:19<20))
      have q19:v2.cell? ⟨gi,19,none⟩=some (.bool (!J.l.beh)):=by
       rw [yab bv2,Array.getElem?_setIfInBounds_ne (by decide)];rfl
      have f19:=yai bv2;have l19:=yaa bv2;go_simp;have hS0:=hS0.trans (kv3.below (by simp) (Nat.le_of_lt l19));refine hK _ _ hS0 ?_;clear hK K q19 f19 l19 ev3 kv3;refine ⟨by kernel_rfl,?_⟩;simp only [List.drop_succ_cons,List.drop_zero];rw [← HJ.out,yhf] at bv3;have HI:=jX (HI.out.laterP hS0 hib Hne.out);have Bgi:=jX bv3;clear bv3 bv2 Bu hS0;obtain⟨T,hT⟩:∃ T,(⟨⟨loK q,bf⟩,⟨hiK e.o q,!bt⟩⟩:Iv K)=T:=⟨_,rfl⟩;rw [hT] at Bgi;have Hpt:Hid (ych e.o q=T):=jX (by unfold ych;rw [if_neg Hz.out,Hbf.out.1,Hbf.out.2];exact hT);clear hT;go_upto_region 19 with (fail)
      have Hst:Hid ((e.ps.take (k+1)).map (ych e.o)=out++[T]):=jX (by
       rw [ydC (ych e.o) e.ps k hkt,Hout.out,Hq.out]
       exact congrArg (fun x=>out++[x]) Hpt.out)
      refine wp_region_lit ?_;refine wV ?_;go_simp;refine wX (v:=iv T) ⟨gi,0,none⟩ ((yaJ v3 gi 0 T (yao Bgi.out))) ?_;go_simp;refine fO ?_;obtain⟨ub,e6,v4,u4,hr4,ho4⟩:=OBI.app T HI.out (by have:=Hlen.out;omega);refine yar (v:=.slice (some ⟨World.heap v3 |>.size,0,none⟩) 1 1) (by rfl) (yaV 22 1 #[(0,.tmp 103)] #[(0,iv T)] _ rfl (by simp only [List.map_toArray,List.map_cons,List.map_nil];rfl) (ybl _ _)) (fun K hK=>?_);rw [e6];clear e6;go_simp;go_step
      refine yar (by rfl) (ybj (.tmp 102) (.tmp 104) 22 _ _ _ rfl rfl rfl hr4) (fun K hK=>?_);go_simp;go_step
      clear hr4;have HN4:=jX ho4;obtain⟨no,nc,rfl⟩:=ho4.form;clear ho4;go_wp2_with fail;go_roundw
      case rel=>exact ⟨k+1,by omega,by omega,congrArg (Value.int .i64) (by omega),by rw [Hst.out];exact HN4.out⟩
      case measure=>simp [intOf];omega
     have hev:=ev_take e hk hk4 hkt;have hout:=Hout.out;rw [hev] at hout;have HI9:Hid (OBI w2 wr (.slice po (evL e).length pc2) (evL e)):=by rw [hout];exact HI
     rw [← hout];clear HI Hout Hlen hout;have pgx:=yab Bgx2.out;by_cases hkl:k<e.ps.length
     ·have hkc:(k:Int)<(e.ps.length:Int):=by omega
      have hkc4:¬ (k:Int)<4:=by omega
      go_wp2_with fail;go_meet
      exact ⟨po,pc2,rfl,HI9.out⟩
     have hkc:¬ (k:Int)<(e.ps.length:Int):=by omega
     go_wp2_with fail;go_meet
     exact ⟨po,pc2,rfl,HI9.out⟩
   case rest =>
    obtain⟨po,pc2,rfl,hob⟩:=hcut;have HI:=jX hob;have HO:=jX (HO.out.later hob.keep);have HS:=jX (HS.out.grow hob.keep);have Bgx:=jX ((hob.keep.block gx (yaa Bgx.out)).trans Bgx.out);have HPn:=jX (ydV (evL e) (evL_val e) wc _ HI.out.read (by unfold evL;rw [List.length_map,List.length_take];omega));clear hob HPs;go_upto_region 20 with (fail)
    refine wp_region_lit ?_;refine wV ?_;go_simp;refine wpList_plain (by rfl) (fun K hK=>?_);refine yaf 105 #[.slice po (evL e).length pc2] (by go_simp) ?_;refine (HPn.out).mono ?_;rintro e9 w3 ⟨vd,rfl,hvd,hk3,htd⟩;refine ⟨_,rfl,?_⟩;go_simp;go_step
    obtain⟨va,vc,rfl,_⟩:=hvd.form;have HO:=jX (HO.out.later hk3.bz);have HS:=jX (HS.out.grow hk3.bz);have Bgx:=jX (hk3.heap Bgx.out (by simp));have hhd:Ls w3 [(.slice va (evD e).length vc,evD e)]:=(Ls.nil _).cons hvd (yau _ _ _) (Nat.le_trans (evD_len e) (by decide));have HD:=jX hhd;have HT:=jX (show TyI w3 (.slice va (evD e).length vc) from htd)
    have hdl:(normK (evL e)).length=(evD e).length:=rfl;rw [hdl];clear hk3 hvd htd hhd hdl HPn HI;have HE:=jX (evS_ok i e);obtain⟨D,hD⟩:∃ D,evD e=D:=⟨_,rfl⟩;rw [hD] at HD HT ⊢;have HDe:=jX hD;clear hD;refine wU (v:=.agg (StV.C ⟨va,vc,⟨D,0,0,0⟩⟩)) (yaC _ #[(0,.tmp 107)] #[(0,.slice va D.length vc)] _ rfl (by simp only [List.map_toArray,List.map_cons,List.map_nil];rfl) (st_built va vc D)) ?_;go_simp;refine wA (al_st _ _ _ rfl) (fun w4 gt e2 bgt hgt _ hk4=>?_);go_simp;refine fO ?_;have hgw:w.heap.size≤gt:=by have:=HO.out.keep.size;omega
    have HOn:=jX (fun b hb=>Nat.lt_of_lt_of_le (HO.out.own_lt b hb) hgt);have hgxt:gx<gt:=Nat.lt_of_lt_of_le (yaa Bgx.out) hgt;refine wR gt (StV.C ⟨va,vc,⟨D,0,0,0⟩⟩) bgt (by exact ygf _) (by rfl) (StV.ones _) (fun w5 b5 k5=>?_);go_simp;refine fO ?_;have hk5:=hk4.trans k5 (by simp;omega);have HO:=jX (HO.out.later (hk5).bz);have HS:=jX (HS.out.grow (hk5).bz);have Bgx:=jX ((hk5).heap Bgx.out (by simp));have HD:=jX (HD.out.grow (hk5).bz);have HT:=jX (HT.out.grow (hk5).bz);have Bgt:=jX b5;clear hk5 hk4 k5 b5 bgt e2;have pgx:=yab Bgx.out
    have Hsl:Hid (svs.length≤4):=by
     have h1:=congrArg List.length HS.out.1;rw [ydp] at h1;unfold stS at h1;rw [List.length_map] at h1;exact jX (by omega)
    obtain⟨G,hG⟩:∃ G,half ((e.g % 8:Nat):Int)=G:=⟨_,rfl⟩;obtain⟨A,hA⟩:∃ A,half (((e.w % 12:Nat):Int)-4)=A:=⟨_,rfl⟩;obtain⟨R,hR⟩:∃ R,half ((e.r % 12:Nat):Int)=R:=⟨_,rfl⟩;have HGe:=jX hG;have HAe:=jX hA;have HRe:=jX hR;clear hG hA hR;have hm8:=yeG e.g 8 (by decide) (by decide);have hm12:=yeG e.w 12 (by decide) (by decide);have hr12:=yeG e.r 12 (by decide) (by decide);have hm4:IntKind.i64.wrap ((e.w:Int) % 12-4)=(e.w:Int) % 12-4:=IntWalk.i64_in _ (by omega);go_upto_region 21 with (fail)
    refine wp_region_lit ?_;refine wV ?_;go_simp;refine wV ?_;go_simp;refine wV ?_;go_simp;refine wV ?_;go_simp;refine fO ?_;have HG:Hid (∀ u,Calls prog 52 #[.int .i64 ((e.g:Int) % 8),.int .i64 2] u fun e' w'=>e' = .returned (.tuple #[.agg (rC G),.int .i64 0])∧Keep [] u w'):=fun u=>by rw [← HGe.out];exact yhe ((e.g % 8:Nat):Int) (by omega) u
    refine wpList_plain (by rfl) (fun K hK=>?_);refine yaf 52 #[.int .i64 ((e.g:Int) % 8),.int .i64 2] (by go_simp) ?_;refine (HG.out _).mono ?_;rintro e9 w6 ⟨rfl,hk6⟩;refine ⟨_,rfl,?_⟩;go_simp;go_step
    have HO:=jX (HO.out.later (hk6).bz);have HS:=jX (HS.out.grow (hk6).bz);have Bgx:=jX ((hk6).heap Bgx.out (by simp));have HD:=jX (HD.out.grow (hk6).bz);have HT:=jX (HT.out.grow (hk6).bz);have Bgt:=jX ((hk6).heap Bgt.out (by simp));clear hk6 pgx HG;refine wV ?_;go_simp;refine wV ?_;go_simp;refine wV ?_;go_simp;refine wV ?_;go_simp;refine yaN (by rfl) _ _ _ rfl gt 1 (rC G) rfl rfl (ybb Bgt.out _ _ (by exact (by decide:1+4≤13))) (by exact q_size) (yaP _) (fun K hK=>?_);obtain⟨bgt,kgt⟩:=yaw (rC G).toList 1 _ w6 Bgt.out;generalize World.setCells w6 gt 1 (rC G).toList=w7 at *;go_simp;go_step
    rw [put_g] at bgt;have hkb:=kgt.below (B:=gt) (by simp) (Nat.le_of_lt (yaa Bgt.out));have hFt:∀ g∈[gt],∃ cur,(World.heap w6)[g]? = some (.cells cur 65):=by intro g hg;rw [List.mem_singleton] at hg;subst hg;exact ⟨_,Bgt.out⟩
    have HO:=jX (HO.out.laterP hkb hgw HOn.out);have HS:=jX (HS.out.ty hFt kgt);have Bgx:=jX ((hkb.block gx hgxt).trans Bgx.out);have hd:=Ls.ty1 HD.out HT.out hFt kgt;have HD:=jX hd.1;have HT:=jX hd.2;clear hFt hd;have Bgt:=jX bgt;clear bgt kgt hkb;have pgx:=yab Bgx.out;by_cases hi0:i=0
    ·have HI0:=jX hi0
     have hz0:¬ (0:Int)<(i:Int):=by omega
     have hxs:(⟨D,G,0,0⟩:St)=evS i e:=by
      unfold evS;rw [HDe.out,HGe.out,if_pos HI0.out,if_pos HI0.out]
     have Hxs:=jX hxs;clear hxs;go_upto_region 26 with (fail)
     clear pgx;refine wp_region_lit ?_;refine wV ?_;go_simp;refine wX (v:=.agg (StV.C ⟨va,vc,⟨D,G,0,0⟩⟩)) ⟨gt,0,none⟩ ((yeS _ gt 0 ⟨va,vc,⟨D,G,0,0⟩⟩ (ybC Bgt.out))) ?_;go_simp;refine fO ?_;obtain⟨ub,e6,v4,u4,hr4,ho4,F,hF1,hF2,hk4⟩:=OBS.app ⟨va,vc,⟨D,G,0,0⟩⟩ HO.out (by have:=Hsl.out;omega);refine yar (v:=.slice (some ⟨World.heap w7 |>.size,0,none⟩) 1 1) (by rfl) (yaV 62 1 #[(0,.tmp 144)] #[(0,.agg (StV.C ⟨va,vc,⟨D,G,0,0⟩⟩))] _ rfl (by simp only [List.map_toArray,List.map_cons,List.map_nil];rfl) (yiO _ _)) (fun K hK=>?_);rw [e6];clear e6;go_simp;go_step
     refine yar (by rfl) (ybj (.tmp 143) (.tmp 145) 62 _ _ _ rfl rfl rfl hr4) (fun K hK=>?_);go_simp;go_step
     clear hr4;have HN4:=jX ho4;have hFt:∀ g∈F,∃ cur,(World.heap w7)[g]? = some (.cells cur 65):=fun g hg=>OBS.ty HO.out g (hF2 g hg);have HS4:=jX (HS.out.ty hFt hk4);have hd:=Ls.ty1 HD.out HT.out hFt hk4;have HD4:=jX hd.1;have HT4:=jX hd.2;obtain⟨no,nc,rfl⟩:=ho4.form;clear ho4 hFt hd hF1 hF2 hk4;go_wp2_with fail;go_roundw
     case rel =>
      refine ⟨i+1,svs++[⟨va,vc,⟨D,G,0,0⟩⟩],by omega,by omega,congrArg (Value.int .i64) (by omega),HN4.out,?_,?_,?_⟩
      ·rw [yfH hlt hlt4,He.out,← HS4.out.1]
       unfold stS;rw [List.map_append];exact congrArg (fun x=>List.map (·.s) svs++[x]) Hxs.out
      ·rw [List.map_append]
       intro p hp;rcases List.mem_append.1 hp with hp|hp
       ·exact HS4.out.2.1 p hp
       exact HD4.out p hp
      intro x hx;rcases List.mem_append.1 hx with hx|hx
      ·exact HS4.out.2.2 x hx
      rw [List.mem_singleton] at hx;subst hx;exact HT4.out
     case measure=>simp [intOf];omega
    have hz0:(0:Int)<(i:Int):=by omega
    have HI0:=jX hi0;clear hi0;go_upto_region 23 with (fail)
    refine wp_region_lit ?_;refine wV ?_;go_simp;refine wV ?_;go_simp;refine wV ?_;go_simp;refine wV ?_;go_simp;refine wV ?_;go_simp;refine fO ?_;have HA:Hid (∀ u,Calls prog 52 #[.int .i64 ((e.w:Int) % 12-4),.int .i64 2] u fun e' w'=>e' = .returned (.tuple #[.agg (rC A),.int .i64 0])∧Keep [] u w'):=fun u=>by rw [← HAe.out];exact yhe (((e.w % 12:Nat):Int)-4) (by omega) u
    refine wpList_plain (by rfl) (fun K hK=>?_);refine yaf 52 #[.int .i64 ((e.w:Int) % 12-4),.int .i64 2] (by go_simp) ?_;refine (HA.out _).mono ?_;rintro e9 w8 ⟨rfl,hk8⟩;refine ⟨_,rfl,?_⟩;go_simp;go_step
    have HO:=jX (HO.out.later (hk8).bz);have HS:=jX (HS.out.grow (hk8).bz);have Bgx:=jX ((hk8).heap Bgx.out (by simp));have HD:=jX (HD.out.grow (hk8).bz);have HT:=jX (HT.out.grow (hk8).bz);have Bgt:=jX ((hk8).heap Bgt.out (by simp));clear hk8 pgx HA;refine wV ?_;go_simp;refine wV ?_;go_simp;refine wV ?_;go_simp;refine wV ?_;go_simp;refine yaN (by rfl) _ _ _ rfl gt 5 (rC A) rfl rfl (ybb Bgt.out _ _ (by exact (by decide:5+4≤13))) (by exact q_size) (yaP _) (fun K hK=>?_);obtain⟨bgt,kgt⟩:=yaw (rC A).toList 5 _ w8 Bgt.out;generalize World.setCells w8 gt 5 (rC A).toList=w9 at *;go_simp;go_step
    rw [put_a] at bgt;have hkb:=kgt.below (B:=gt) (by simp) (Nat.le_of_lt (yaa Bgt.out));have hFt:∀ g∈[gt],∃ cur,(World.heap w8)[g]? = some (.cells cur 65):=by intro g hg;rw [List.mem_singleton] at hg;subst hg;exact ⟨_,Bgt.out⟩
    have HO:=jX (HO.out.laterP hkb hgw HOn.out);have HS:=jX (HS.out.ty hFt kgt);have Bgx:=jX ((hkb.block gx hgxt).trans Bgx.out);have hd:=Ls.ty1 HD.out HT.out hFt kgt;have HD:=jX hd.1;have HT:=jX hd.2;clear hFt hd;have Bgt:=jX bgt;clear bgt kgt hkb;have pgx:=yab Bgx.out;have HR9:Hid (∀ u,Calls prog 52 #[.int .i64 ((e.r:Int) % 12),.int .i64 2] u fun e' w'=>e' = .returned (.tuple #[.agg (rC R),.int .i64 0])∧Keep [] u w'):=fun u=>by rw [← HRe.out];exact yhe ((e.r % 12:Nat):Int) (by omega) u
    go_upto_region 24 with (fail)
    refine wp_region_lit ?_;refine wV ?_;go_simp;refine wV ?_;go_simp;refine wV ?_;go_simp;refine wV ?_;go_simp;refine wpList_plain (by rfl) (fun K hK=>?_);refine yaf 52 #[.int .i64 ((e.r:Int) % 12),.int .i64 2] (by go_simp) ?_;refine (HR9.out _).mono ?_;rintro e9 w10 ⟨rfl,hk10⟩;refine ⟨_,rfl,?_⟩;go_simp;go_step
    have HO:=jX (HO.out.later (hk10).bz);have HS:=jX (HS.out.grow (hk10).bz);have Bgx:=jX ((hk10).heap Bgx.out (by simp));have HD:=jX (HD.out.grow (hk10).bz);have HT:=jX (HT.out.grow (hk10).bz);have Bgt:=jX ((hk10).heap Bgt.out (by simp));clear hk10 pgx HR9;refine wV ?_;go_simp;refine wV ?_;go_simp;refine wV ?_;go_simp;refine wA (ycb _ _ _ rfl) (fun w11 g15 e2 b15 hg15 _ hk11=>?_);go_simp;refine wR g15 (rC R) b15 (by exact q_size) (by rfl) (yaP _) (fun w12 b12 k12=>?_);go_simp;refine fO ?_;have hk12:=hk11.trans k12 (by simp;omega);have HO:=jX (HO.out.later (hk12).bz);have HS:=jX (HS.out.grow (hk12).bz);have Bgx:=jX ((hk12).heap Bgx.out (by simp));have HD:=jX (HD.out.grow (hk12).bz);have HT:=jX (HT.out.grow (hk12).bz);have Bgt:=jX ((hk12).heap Bgt.out (by simp));have Bg15:=jX b12;clear hk12 hk11 k12 b12 b15 e2;have HAd:Hid (∀ u,Calls prog 106 #[.agg (rC A),.agg (rC R)] u fun e' w'=>e' = .returned (.agg (rC (A+R)))∧Keep [] u w'):=fun u=>QAdd_c A R (by rw [← HAe.out];exact (ybk (by omega)).mono (by decide)) (by rw [← HRe.out];exact (ybk (by omega)).mono (by decide)) u;obtain⟨T,hT⟩:∃ T,A+R=T:=⟨_,rfl⟩;rw [hT] at HAd;have HTe:=jX hT;clear hT;go_upto_region 25 with (fail)
    refine wp_region_lit ?_;refine wV ?_;go_simp;refine wU (v:=.agg (rC A)) (yan _ _ ⟨gt,0+5,none⟩ _ rfl rfl (ybC Bgt.out).la) ?_;go_simp;refine wX (v:=.agg (rC R)) ⟨g15,0,none⟩ ((ycw Bg15.out)) ?_;go_simp;refine wpList_plain (by rfl) (fun K hK=>?_);refine yaf 106 #[.agg (rC A),.agg (rC R)] (by go_simp) ?_;refine (HAd.out _).mono ?_;rintro e9 w13 ⟨rfl,hk13⟩;refine ⟨_,rfl,?_⟩;go_simp;go_step
    have HO:=jX (HO.out.later (hk13).bz);have HS:=jX (HS.out.grow (hk13).bz);have Bgx:=jX ((hk13).heap Bgx.out (by simp));have HD:=jX (HD.out.grow (hk13).bz);have HT:=jX (HT.out.grow (hk13).bz);have Bgt:=jX ((hk13).heap Bgt.out (by simp));clear hk13 HAd Bg15;refine wV ?_;go_simp;refine yaN (by rfl) _ _ _ rfl gt 9 (rC T) rfl rfl (ybb Bgt.out _ _ (by exact (by decide:9+4≤13))) (by exact q_size) (yaP _) (fun K hK=>?_);obtain⟨bgt,kgt⟩:=yaw (rC T).toList 9 _ w13 Bgt.out;generalize World.setCells w13 gt 9 (rC T).toList=w14 at *;go_simp;go_step
    rw [put_b] at bgt;have hkb:=kgt.below (B:=gt) (by simp) (Nat.le_of_lt (yaa Bgt.out));have hFt:∀ g∈[gt],∃ cur,(World.heap w13)[g]? = some (.cells cur 65):=by intro g hg;rw [List.mem_singleton] at hg;subst hg;exact ⟨_,Bgt.out⟩
    have HO:=jX (HO.out.laterP hkb hgw HOn.out);have HS:=jX (HS.out.ty hFt kgt);have Bgx:=jX ((hkb.block gx hgxt).trans Bgx.out);have hd:=Ls.ty1 HD.out HT.out hFt kgt;have HD:=jX hd.1;have HT:=jX hd.2;clear hFt hd;have Bgt:=jX bgt;clear bgt kgt hkb
    have hxs:(⟨D,G,A,T⟩:St)=evS i e:=by
     unfold evS;rw [HDe.out,HGe.out,if_neg HI0.out,if_neg HI0.out,HAe.out,HRe.out,HTe.out]
    have Hxs:=jX hxs;clear hxs;go_upto_region 26 with (fail)
    refine wp_region_lit ?_;refine wV ?_;go_simp;refine wX (v:=.agg (StV.C ⟨va,vc,⟨D,G,A,T⟩⟩)) ⟨gt,0,none⟩ ((yeS _ gt 0 ⟨va,vc,⟨D,G,A,T⟩⟩ (ybC Bgt.out))) ?_;go_simp;refine fO ?_;obtain⟨ub,e6,v4,u4,hr4,ho4,F,hF1,hF2,hk4⟩:=OBS.app ⟨va,vc,⟨D,G,A,T⟩⟩ HO.out (by have:=Hsl.out;omega);refine yar (v:=.slice (some ⟨World.heap w14 |>.size,0,none⟩) 1 1) (by rfl) (yaV 62 1 #[(0,.tmp 144)] #[(0,.agg (StV.C ⟨va,vc,⟨D,G,A,T⟩⟩))] _ rfl (by simp only [List.map_toArray,List.map_cons,List.map_nil];rfl) (yiO _ _)) (fun K hK=>?_);rw [e6];clear e6;go_simp;go_step
    refine yar (by rfl) (ybj (.tmp 143) (.tmp 145) 62 _ _ _ rfl rfl rfl hr4) (fun K hK=>?_);go_simp;go_step
    clear hr4;have HN4:=jX ho4;have hFt:∀ g∈F,∃ cur,(World.heap w14)[g]? = some (.cells cur 65):=fun g hg=>OBS.ty HO.out g (hF2 g hg);have HS4:=jX (HS.out.ty hFt hk4);have hd:=Ls.ty1 HD.out HT.out hFt hk4;have HD4:=jX hd.1;have HT4:=jX hd.2;obtain⟨no,nc,rfl⟩:=ho4.form;clear ho4 hFt hd hF1 hF2 hk4;go_wp2_with fail;go_roundw
    case rel =>
     refine ⟨i+1,svs++[⟨va,vc,⟨D,G,A,T⟩⟩],by omega,by omega,congrArg (Value.int .i64) (by omega),HN4.out,?_,?_,?_⟩
     ·rw [yfH hlt hlt4,He.out,← HS4.out.1]
      unfold stS;rw [List.map_append];exact congrArg (fun x=>List.map (·.s) svs++[x]) Hxs.out
     ·rw [List.map_append]
      intro p hp;rcases List.mem_append.1 hp with hp|hp
      ·exact HS4.out.2.1 p hp
      exact HD4.out p hp
     intro x hx;rcases List.mem_append.1 hx with hx|hx
     ·exact HS4.out.2.2 x hx
     rw [List.mem_singleton] at hx;subst hx;exact HT4.out
    case measure=>simp [intOf];omega
  have hst:yaW (l.take i)=yaW l:=by
   unfold yaW;by_cases h4:i=4
   ·rw [h4,List.take_take];rfl
   have:l.take i=l:=List.take_of_length_le (by omega);rw [this]
  have HX:=jX (And.intro HO.out.read HS.out);have HB:=jX HO.out.keep;have Hst:=jX hst;clear hst HO HS;by_cases hkl:i<l.length
  ·have hic:(i:Int)<(l.length:Int):=by omega
   have hic4:¬ (i:Int)<4:=by omega
   go_wp2_with fail;go_ret
   exact ⟨_,rfl,svs,⟨HX.out.1,HX.out.2.2.1⟩,HX.out.2.1.trans Hst.out,HB.out⟩
  have hic:¬ (i:Int)<(l.length:Int):=by omega
  go_wp2_with fail;go_ret
  exact ⟨_,rfl,svs,⟨HX.out.1,HX.out.2.2.1⟩,HX.out.2.1.trans Hst.out,HB.out⟩
end
end Go.Proofs.YtpgffjjpiafhpaaGreatDoor
