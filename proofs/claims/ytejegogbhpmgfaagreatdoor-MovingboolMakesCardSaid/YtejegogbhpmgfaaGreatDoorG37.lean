/- Parts of a proof: Ib Va Vd Ia. -/
import Derived.Deep.Slices
import Derived.Lib.SmallJoins
import Derived.Test.YtejegogbhpmgfaaGreatDoorG35
import Derived.Test.YtejegogbhpmgfaaGreatDoorG34
import Derived.Test.YtejegogbhpmgfaaGreatDoorG32
import Derived.Test.YtejegogbhpmgfaaGreatDoorG36
set_option linter.unusedVariables false
set_option linter.unusedSimpArgs false
set_option maxRecDepth 100000
set_option maxHeartbeats 8000000
namespace Go.Proofs.YtejegogbhpmgfaaGreatDoor
open Go.RowKit Tryz
section
open Classical
theorem fault_c (r:RawI) (hs:r.sz 100000) (w:World):Calls prog 98 #[r.v] w fun e w'=>e = .returned (.int .i64 (eI r))∧Keep [] w w':=by
 have H1:=jX (yiz r.f ⟨Nat.le_trans hs.1.1 (by decide),Nat.le_trans hs.1.2.1 (by decide),Nat.le_trans hs.1.2.2.1 (by decide),Nat.le_trans hs.1.2.2.2 (by decide)⟩);have H2:=jX (yiz r.t ⟨Nat.le_trans hs.2.1 (by decide),Nat.le_trans hs.2.2.1 (by decide),Nat.le_trans hs.2.2.2.1 (by decide),Nat.le_trans hs.2.2.2.2 (by decide)⟩);have HLd:=jX (fun (u:World) (g:Nat) (h:u.heap[g]? = some (.cells r.C 49))=>And.intro (yeu u g 0 r.f (ycM h).frm) (yeu u g (0+9) r.t (ycM h).upto));have hv:r.v = .agg r.C:=rfl;by_cases hf:r.f.isK
 ·rw [decide_eq_true hf] at H1
  by_cases ht:r.t.isK
  ·rw [decide_eq_true ht] at H2
   obtain⟨i,hi⟩:=RawI.toI hf ht hs;have he:eI r=if i.f<i.l then 0 else 10:=by rw [hi,eI_of]
   have HLi:=jX (fun (u:World) (g:Nat) (h:u.heap[g]? = some (.cells r.C 49))=>ybF u g 0 r (ycM h));have H3:=jX (isiv_c i);have hiv:iv i = .agg r.C:=by rw [hi];rfl
   have hq:=isIvV_iff i;rw [he,hv];rw [hiv] at H3;rw [hv] at HLi;obtain⟨q,hq0⟩:∃ q,yjh (cmpQ i.f.pt.1 i.l.pt.1) i.f.beh (!i.l.beh)=q:=⟨_,rfl⟩;rw [hq0] at hq H3;clear hf ht hs hi he hiv hv hq0;generalize r.f.v=fv at *;generalize r.t.v=tv at *;generalize r.C=C at *;cases q with
   | true =>
    rw [if_pos (hq.1 rfl)];clear hq;go_enter func98,ntmps98
    go_upto_region 1 with (fail)
    obtain⟨W,ga,hW,ega,Bga,hga,hgW,HkW⟩:=al1h w (.cells C 49);rw [← hW];try rw [ega]
    clear hW ega;refine wp_region_lit ?_;first|(refine gWE (by rfl) ?_;refine ⟨?_,?_,fun K hK=>?_⟩;rotate_left;(go_simp;try rfl);go_simp;refine hK _ _ ?_;clear hK K)|(refine gWS (by rfl) (fun K hK=>?_);go_simp;refine hK _ _ ?_;clear hK K)
    refine gWE (by rfl) ⟨fv,yak _ _ ⟨ga,0,none⟩ _ rfl rfl (HLd.out W ga Bga.out).1,fun K hK=>?_⟩;go_simp;refine hK _ _ ?_;clear hK K;refine gWC (by rfl) (fun K hK=>?_);refine yae 134 #[fv] (by go_simp) ?_;refine (H1.out _).mono ?_;rintro e w1 ⟨rfl,hk1⟩;refine ⟨_,rfl,?_⟩;go_simp;refine hK _ _ ?_;clear hK K;have HK1:=jX (HkW.out.tz hk1);have Bg1:=jX (hk1.heap Bga.out (by simp));clear hk1;iterate 2 (first|(refine gWE (by rfl) ?_;refine ⟨?_,?_,fun K hK=>?_⟩;rotate_left;(go_simp;try rfl);go_simp;refine hK _ _ ?_;clear hK K)|(refine gWS (by rfl) (fun K hK=>?_);go_simp;refine hK _ _ ?_;clear hK K))
    first|(refine gWE (by rfl) ?_;refine ⟨?_,?_,fun K hK=>?_⟩;rotate_left;(go_simp;try rfl);go_simp;refine hK _ _ ?_;clear hK K)|(refine gWS (by rfl) (fun K hK=>?_);go_simp;refine hK _ _ ?_;clear hK K)
    refine gWE (by rfl) ⟨tv,yak _ _ ⟨ga,9,none⟩ _ rfl rfl (HLd.out w1 ga Bg1.out).2,fun K hK=>?_⟩;go_simp;refine hK _ _ ?_;clear hK K;refine gWC (by rfl) (fun K hK=>?_);refine yae 134 #[tv] (by go_simp) ?_;refine (H2.out _).mono ?_;rintro e w2 ⟨rfl,hk2⟩;refine ⟨_,rfl,?_⟩;go_simp;refine hK _ _ ?_;clear hK K;have HK2:=jX (HK1.out.tz hk2);have Bg2:=jX (hk2.heap Bg1.out (by simp));clear hk2;iterate 2 (first|(refine gWE (by rfl) ?_;refine ⟨?_,?_,fun K hK=>?_⟩;rotate_left;(go_simp;try rfl);go_simp;refine hK _ _ ?_;clear hK K)|(refine gWS (by rfl) (fun K hK=>?_);go_simp;refine hK _ _ ?_;clear hK K))
    go_upto_region 3 with (fail)
    refine wp_region_lit ?_;refine gWE (by rfl) ⟨.agg C,yak _ _ ⟨ga,0,none⟩ _ rfl rfl (HLi.out w2 ga Bg2.out),fun K hK=>?_⟩;go_simp;refine hK _ _ ?_;clear hK K;refine gWC (by rfl) (fun K hK=>?_);refine yae 135 #[.agg C] (by go_simp) ?_;refine (H3.out _).mono ?_;rintro e w3 ⟨rfl,hk3⟩;refine ⟨_,rfl,?_⟩;go_simp;refine hK _ _ ?_;clear hK K;have HK3:=jX (HK2.out.tz hk3);clear hk3;first|(refine gWE (by rfl) ?_;refine ⟨?_,?_,fun K hK=>?_⟩;rotate_left;(go_simp;try rfl);go_simp;refine hK _ _ ?_;clear hK K)|(refine gWS (by rfl) (fun K hK=>?_);go_simp;refine hK _ _ ?_;clear hK K)
    go_wp2_with fail;go_ret
    exact ⟨rfl,HK3.out⟩
   | false =>
    rw [if_neg (fun h=>Bool.false_ne_true (hq.2 h))];clear hq;go_enter func98,ntmps98
    go_upto_region 1 with (fail)
    obtain⟨W,ga,hW,ega,Bga,hga,hgW,HkW⟩:=al1h w (.cells C 49);rw [← hW];try rw [ega]
    clear hW ega;refine wp_region_lit ?_;first|(refine gWE (by rfl) ?_;refine ⟨?_,?_,fun K hK=>?_⟩;rotate_left;(go_simp;try rfl);go_simp;refine hK _ _ ?_;clear hK K)|(refine gWS (by rfl) (fun K hK=>?_);go_simp;refine hK _ _ ?_;clear hK K)
    refine gWE (by rfl) ⟨fv,yak _ _ ⟨ga,0,none⟩ _ rfl rfl (HLd.out W ga Bga.out).1,fun K hK=>?_⟩;go_simp;refine hK _ _ ?_;clear hK K;refine gWC (by rfl) (fun K hK=>?_);refine yae 134 #[fv] (by go_simp) ?_;refine (H1.out _).mono ?_;rintro e w1 ⟨rfl,hk1⟩;refine ⟨_,rfl,?_⟩;go_simp;refine hK _ _ ?_;clear hK K;have HK1:=jX (HkW.out.tz hk1);have Bg1:=jX (hk1.heap Bga.out (by simp));clear hk1;iterate 2 (first|(refine gWE (by rfl) ?_;refine ⟨?_,?_,fun K hK=>?_⟩;rotate_left;(go_simp;try rfl);go_simp;refine hK _ _ ?_;clear hK K)|(refine gWS (by rfl) (fun K hK=>?_);go_simp;refine hK _ _ ?_;clear hK K))
    first|(refine gWE (by rfl) ?_;refine ⟨?_,?_,fun K hK=>?_⟩;rotate_left;(go_simp;try rfl);go_simp;refine hK _ _ ?_;clear hK K)|(refine gWS (by rfl) (fun K hK=>?_);go_simp;refine hK _ _ ?_;clear hK K)
    refine gWE (by rfl) ⟨tv,yak _ _ ⟨ga,9,none⟩ _ rfl rfl (HLd.out w1 ga Bg1.out).2,fun K hK=>?_⟩;go_simp;refine hK _ _ ?_;clear hK K;refine gWC (by rfl) (fun K hK=>?_);refine yae 134 #[tv] (by go_simp) ?_;refine (H2.out _).mono ?_;rintro e w2 ⟨rfl,hk2⟩;refine ⟨_,rfl,?_⟩;go_simp;refine hK _ _ ?_;clear hK K;have HK2:=jX (HK1.out.tz hk2);have Bg2:=jX (hk2.heap Bg1.out (by simp));clear hk2;iterate 2 (first|(refine gWE (by rfl) ?_;refine ⟨?_,?_,fun K hK=>?_⟩;rotate_left;(go_simp;try rfl);go_simp;refine hK _ _ ?_;clear hK K)|(refine gWS (by rfl) (fun K hK=>?_);go_simp;refine hK _ _ ?_;clear hK K))
    go_upto_region 3 with (fail)
    refine wp_region_lit ?_;refine gWE (by rfl) ⟨.agg C,yak _ _ ⟨ga,0,none⟩ _ rfl rfl (HLi.out w2 ga Bg2.out),fun K hK=>?_⟩;go_simp;refine hK _ _ ?_;clear hK K;refine gWC (by rfl) (fun K hK=>?_);refine yae 135 #[.agg C] (by go_simp) ?_;refine (H3.out _).mono ?_;rintro e w3 ⟨rfl,hk3⟩;refine ⟨_,rfl,?_⟩;go_simp;refine hK _ _ ?_;clear hK K;have HK3:=jX (HK2.out.tz hk3);clear hk3;first|(refine gWE (by rfl) ?_;refine ⟨?_,?_,fun K hK=>?_⟩;rotate_left;(go_simp;try rfl);go_simp;refine hK _ _ ?_;clear hK K)|(refine gWS (by rfl) (fun K hK=>?_);go_simp;refine hK _ _ ?_;clear hK K)
    go_wp2_with fail;go_ret
    exact ⟨rfl,HK3.out⟩
  rw [decide_eq_false ht] at H2;have he:eI r=5:=eI_no (fun h=>ht h.2);rw [he,hv];clear hf ht hs he hv;generalize r.f.v=fv at *;generalize r.t.v=tv at *;generalize r.C=C at *;go_enter func98,ntmps98
  go_upto_region 1 with (fail)
  obtain⟨W,ga,hW,ega,Bga,hga,hgW,HkW⟩:=al1h w (.cells C 49);rw [← hW];try rw [ega]
  clear hW ega;refine wp_region_lit ?_;first|(refine gWE (by rfl) ?_;refine ⟨?_,?_,fun K hK=>?_⟩;rotate_left;(go_simp;try rfl);go_simp;refine hK _ _ ?_;clear hK K)|(refine gWS (by rfl) (fun K hK=>?_);go_simp;refine hK _ _ ?_;clear hK K)
  refine gWE (by rfl) ⟨fv,yak _ _ ⟨ga,0,none⟩ _ rfl rfl (HLd.out W ga Bga.out).1,fun K hK=>?_⟩;go_simp;refine hK _ _ ?_;clear hK K;refine gWC (by rfl) (fun K hK=>?_);refine yae 134 #[fv] (by go_simp) ?_;refine (H1.out _).mono ?_;rintro e w1 ⟨rfl,hk1⟩;refine ⟨_,rfl,?_⟩;go_simp;refine hK _ _ ?_;clear hK K;have HK1:=jX (HkW.out.tz hk1);have Bg1:=jX (hk1.heap Bga.out (by simp));clear hk1;iterate 2 (first|(refine gWE (by rfl) ?_;refine ⟨?_,?_,fun K hK=>?_⟩;rotate_left;(go_simp;try rfl);go_simp;refine hK _ _ ?_;clear hK K)|(refine gWS (by rfl) (fun K hK=>?_);go_simp;refine hK _ _ ?_;clear hK K))
  first|(refine gWE (by rfl) ?_;refine ⟨?_,?_,fun K hK=>?_⟩;rotate_left;(go_simp;try rfl);go_simp;refine hK _ _ ?_;clear hK K)|(refine gWS (by rfl) (fun K hK=>?_);go_simp;refine hK _ _ ?_;clear hK K)
  refine gWE (by rfl) ⟨tv,yak _ _ ⟨ga,9,none⟩ _ rfl rfl (HLd.out w1 ga Bg1.out).2,fun K hK=>?_⟩;go_simp;refine hK _ _ ?_;clear hK K;refine gWC (by rfl) (fun K hK=>?_);refine yae 134 #[tv] (by go_simp) ?_;refine (H2.out _).mono ?_;rintro e w2 ⟨rfl,hk2⟩;refine ⟨_,rfl,?_⟩;go_simp;refine hK _ _ ?_;clear hK K;have HK2:=jX (HK1.out.tz hk2);have Bg2:=jX (hk2.heap Bg1.out (by simp));clear hk2;iterate 2 (first|(refine gWE (by rfl) ?_;refine ⟨?_,?_,fun K hK=>?_⟩;rotate_left;(go_simp;try rfl);go_simp;refine hK _ _ ?_;clear hK K)|(refine gWS (by rfl) (fun K hK=>?_);go_simp;refine hK _ _ ?_;clear hK K))
  go_wp2_with fail;go_ret
  exact ⟨rfl,HK2.out⟩
 rw [decide_eq_false hf] at H1;have he:eI r=5:=eI_no (fun h=>hf h.1);rw [he,hv];clear hf hs he hv H2;generalize r.f.v=fv at *;generalize r.t.v=tv at *;generalize r.C=C at *;go_enter func98,ntmps98
 go_upto_region 1 with (fail)
 obtain⟨W,ga,hW,ega,Bga,hga,hgW,HkW⟩:=al1h w (.cells C 49);rw [← hW];try rw [ega]
 clear hW ega;refine wp_region_lit ?_;first|(refine gWE (by rfl) ?_;refine ⟨?_,?_,fun K hK=>?_⟩;rotate_left;(go_simp;try rfl);go_simp;refine hK _ _ ?_;clear hK K)|(refine gWS (by rfl) (fun K hK=>?_);go_simp;refine hK _ _ ?_;clear hK K)
 refine gWE (by rfl) ⟨fv,yak _ _ ⟨ga,0,none⟩ _ rfl rfl (HLd.out W ga Bga.out).1,fun K hK=>?_⟩;go_simp;refine hK _ _ ?_;clear hK K;refine gWC (by rfl) (fun K hK=>?_);refine yae 134 #[fv] (by go_simp) ?_;refine (H1.out _).mono ?_;rintro e w1 ⟨rfl,hk1⟩;refine ⟨_,rfl,?_⟩;go_simp;refine hK _ _ ?_;clear hK K;have HK1:=jX (HkW.out.tz hk1);have Bg1:=jX (hk1.heap Bga.out (by simp));clear hk1;iterate 2 (first|(refine gWE (by rfl) ?_;refine ⟨?_,?_,fun K hK=>?_⟩;rotate_left;(go_simp;try rfl);go_simp;refine hK _ _ ?_;clear hK K)|(refine gWS (by rfl) (fun K hK=>?_);go_simp;refine hK _ _ ?_;clear hK K))
 iterate 5 (first|(refine gWE (by rfl) ?_;refine ⟨?_,?_,fun K hK=>?_⟩;rotate_left;(go_simp;try rfl);go_simp;refine hK _ _ ?_;clear hK K)|(refine gWS (by rfl) (fun K hK=>?_);go_simp;refine hK _ _ ?_;clear hK K))
 go_wp2_with fail;go_ret
 exact ⟨rfl,HK1.out⟩
end
section
open Go.ChangeShapes Go.WideShapes Go.ChangeAt
theorem yiI {α β:Type} (f:α→Option β):∀ (l:List α) (cs:List β),l.mapM f=some cs→cs.length=l.length∧∀ (i:Nat) (x:α),l[i]? = some x→f x=cs[i]?
 | [],cs,h=>by
  simp at h;subst h;exact ⟨rfl,fun i x hx=>by simp at hx⟩
 | x :: l,cs,h=>by
  rw [List.mapM_cons] at h;simp only [Option.bind_eq_bind,Option.pure_def,Option.bind_eq_some_iff] at h;obtain⟨y,hy,ys,hys,h⟩:=h;simp at h;subst h;obtain⟨h1,h2⟩:=yiI f l ys hys;refine ⟨by simp [h1],fun i z hz=>?_⟩;cases i with
  | zero=>simp at hz;subst hz;simpa using hy
  | succ i=>simp at hz ⊢;exact h2 i z hz
theorem cells?_get {w:World} {base n:Nat} {a:Addr} {cs:List Value} (h:w.cells? base a n=some cs):cs.length=n∧∀ i,i<n→w.cell? (a.add i)=cs[i]?:=by
 unfold World.cells? at h;split at h
 ·obtain⟨h1,h2⟩:=yiI _ _ _ h
  exact ⟨by simpa using h1,fun i hi=>h2 i i (by rw [List.getElem?_range hi])⟩
 cases h
theorem ydA {w:World} {a:Addr} {v:Value} (h:w.cell? a=some v):∃ b off,a=⟨b,off,none⟩:=by
 obtain⟨b,off,sp⟩:=a;cases sp with
 | none=>exact ⟨b,off,rfl⟩
 | some x=>simp [World.cell?] at h;split at h<;>simp at h
theorem cells_u8:prog.cellsOf 5=1:=by kernel_rfl
theorem cells_bool:prog.cellsOf 4=1:=by kernel_rfl
theorem cells_Ins:prog.cellsOf 26=5:=by kernel_rfl
theorem cells_Span:prog.cellsOf 129=12:=by kernel_rfl
def InsA.cs (a:InsA):List Value:=[.int .u8 a.P,.int .u8 a.D,.int .u8 a.R,.int .u8 a.E,.bool a.neg]
section
variable {H:Type} {enc:TypeId × Value→H} {w:World} {base:Nat} {held:Bool} {fuel:Nat}
theorem yiU {cs:List Value} {x:DataW H × List MemPlace} (h:DataW.trod enc prog w base (fun _=>true) held fuel 26 cs=some x):∃ a:InsA,cs=a.cs:=by
 obtain⟨xs,n,_,rfl,hl,hlen,hf⟩:=DataW.trod_struct underlying26 h;rw [cells_Ins] at hl
 match cs,hl with
 | [c0,c1,c2,c3,c4],_ =>
  match xs,hlen with
  | [x0,x1,x2,x3,x4],_ =>
   have h0:DataW.trod enc prog w base (fun _=>true) held n 5 (([c0,c1,c2,c3,c4].drop 0).take (prog.cellsOf 5))=some x0:=hf 0 _ rfl;have h1:DataW.trod enc prog w base (fun _=>true) held n 5 (([c0,c1,c2,c3,c4].drop 1).take (prog.cellsOf 5))=some x1:=hf 1 _ rfl;have h2:DataW.trod enc prog w base (fun _=>true) held n 5 (([c0,c1,c2,c3,c4].drop 2).take (prog.cellsOf 5))=some x2:=hf 2 _ rfl;have h3:DataW.trod enc prog w base (fun _=>true) held n 5 (([c0,c1,c2,c3,c4].drop 3).take (prog.cellsOf 5))=some x3:=hf 3 _ rfl;have h4:DataW.trod enc prog w base (fun _=>true) held n 4 (([c0,c1,c2,c3,c4].drop 4).take (prog.cellsOf 4))=some x4:=hf 4 _ rfl;rw [cells_u8] at h0 h1 h2 h3;rw [cells_bool] at h4;obtain⟨n0,e0,_,w0⟩:=DataW.trod_int underlying5 h0;obtain⟨n1,e1,_,w1⟩:=DataW.trod_int underlying5 h1;obtain⟨n2,e2,_,w2⟩:=DataW.trod_int underlying5 h2;obtain⟨n3,e3,_,w3⟩:=DataW.trod_int underlying5 h3;obtain⟨n4,e4,_⟩:=DataW.trod_bool underlying4 h4;simp at e0 e1 e2 e3 e4;subst e0 e1 e2 e3 e4;have b0:=bounds_u8 w0;have b1:=bounds_u8 w1;have b2:=bounds_u8 w2;have b3:=bounds_u8 w3;refine ⟨⟨n0.toNat,n1.toNat,n2.toNat,n3.toNat,n4,by omega,by omega,by omega,by omega⟩,?_⟩;simp [InsA.cs,Int.toNat_of_nonneg b0.1,Int.toNat_of_nonneg b1.1,Int.toNat_of_nonneg b2.1,Int.toNat_of_nonneg b3.1]
theorem span_trod {cs:List Value} {x:DataW H × List MemPlace} (h:DataW.trod enc prog w base (fun _=>true) held fuel 129 cs=some x):∃ s:SpanA,cs=ybg s:=by
 obtain⟨xs,n,_,rfl,hl,hlen,hf⟩:=DataW.trod_struct underlying129 h;rw [cells_Span] at hl
 match cs,hl with
 | [c0,c1,c2,c3,c4,c5,c6,c7,c8,c9,c10,c11],_ =>
  match xs,hlen with
  | [x0,x1,x2,x3],_ =>
   have h0:DataW.trod enc prog w base (fun _=>true) held n 26 (([c0,c1,c2,c3,c4,c5,c6,c7,c8,c9,c10,c11].drop 0).take (prog.cellsOf 26))=some x0:=hf 0 _ rfl;have h1:DataW.trod enc prog w base (fun _=>true) held n 26 (([c0,c1,c2,c3,c4,c5,c6,c7,c8,c9,c10,c11].drop 5).take (prog.cellsOf 26))=some x1:=hf 1 _ rfl;have h2:DataW.trod enc prog w base (fun _=>true) held n 4 (([c0,c1,c2,c3,c4,c5,c6,c7,c8,c9,c10,c11].drop 10).take (prog.cellsOf 4))=some x2:=hf 2 _ rfl;have h3:DataW.trod enc prog w base (fun _=>true) held n 4 (([c0,c1,c2,c3,c4,c5,c6,c7,c8,c9,c10,c11].drop 11).take (prog.cellsOf 4))=some x3:=hf 3 _ rfl;rw [cells_Ins] at h0 h1;rw [cells_bool] at h2 h3;obtain⟨a,e0⟩:=yiU h0;obtain⟨b,e1⟩:=yiU h1;obtain⟨o,e2,_⟩:=DataW.trod_bool underlying4 h2;obtain⟨c,e3,_⟩:=DataW.trod_bool underlying4 h3;refine ⟨⟨a,b,o,c⟩,?_⟩;simp [InsA.cs] at e0 e1 e2 e3;simp [ybg,e0,e1,e2,e3]
theorem yjI {sv:Value} {x:DataW H × List MemPlace} (h:DataW.trod enc prog w base (fun _=>true) held fuel 22 [sv]=some x) :
  ∃ l:List SpanA,SpQ w sv l∧l.length≤maxLen:=by
 rcases Go.Deep.open_slice underlying22 h with ⟨hcs,_⟩|⟨a,len,cap,m,n,D,Pl,hcs,_,hl,hm,hmm,_,hel⟩
 ·simp at hcs;exact ⟨[],⟨none,0,hcs,.inl rfl⟩,by simp⟩
 simp at hcs hmm;by_cases h0:len=0
 ·subst h0;exact ⟨[],⟨_,cap,hcs,.inl rfl⟩,by simp⟩
 have hall:∀ i,i<cap→∃ s:SpanA,w.cells? base (a.add (i*12)) 12=some (ybg s):=by
  intro i hi;obtain⟨cs',h1,h2⟩:=hel i (by omega);rw [cells_Span] at h1;obtain⟨s,rfl⟩:=span_trod h2;exact ⟨s,h1⟩
 have hfun:∃ f:Nat→SpanA,∀ i,i<cap→w.cells? base (a.add (i*12)) 12=some (ybg (f i)):=by
  obtain⟨s0,_⟩:=hall 0 (by omega);exact ⟨fun i=>if h:i<cap then Classical.choose (hall i h) else s0,fun i hi=>by simp only [hi,dif_pos];exact Classical.choose_spec (hall i hi)⟩
 obtain⟨f,hf⟩:=hfun;have hc0:=(cells?_get (hf 0 (by omega))).2 0 (by omega);obtain⟨b,off,hp⟩:=ydA (v:=.int .u8 (f 0).a.P) (by simpa [ybg] using hc0);have ha:a=⟨b,off,none⟩:=by unfold Addr.add at hp;simpa using hp
 subst ha;refine ⟨(List.range len).map f,⟨some ⟨b,off,none⟩,cap,by simpa using hcs,.inr ?_⟩,by simp;omega⟩;refine .inr ⟨b,off,cap,by simpa using hcs,by simp;omega,?_,fun t v hv=>?_⟩
 ·exact World.block_lt_of_cell? w _ (by
   have e:=hc0;rw [ybs,ybs] at e;simp only [Nat.zero_mul,Nat.add_zero] at e
   exact e.trans (by simp [ybg];rfl))
 have ht:t<len*12:=by
  have:=(List.getElem?_eq_some_iff.1 hv).1;rw [ybz (fun s:SpanA=>ybg s) ydq] at this
  simpa using this
 have hi:t / 12<len:=Nat.div_lt_of_lt_mul (by rw [Nat.mul_comm];exact ht);have hj:t % 12<12:=Nat.mod_lt _ (by decide);have h1:=ydw (fun s:SpanA=>ybg s) ydq ((List.range len).map f) (t / 12) (t % 12) (by simpa using hi) hj;rw [Nat.div_add_mod' t 12,hv] at h1;have h2:=(cells?_get (hf (t / 12) (by omega))).2 (t % 12) hj;rw [ybs,ybs,Nat.add_assoc,Nat.div_add_mod' t 12] at h2;rw [h2,h1];simp
end
def SpArg (w:World) (v:Value):Prop:=∃ l:List SpanA,SpQ w v l∧l.length≤9223372036854775807
theorem SpArg_open {H:Type} {enc:TypeId × Value→H} {W:World} {v:Value} {base:Nat} {d:DataW H} {p:List MemPlace} (hv:Value.okWide prog W .any base 22 v)
  (h:∃ m,DataW.trod enc prog W 0 (fun _=>true) true m 22 v.cells.toList=some (d,p)):SpArg W v:=by
 obtain⟨a,len,cap,rfl⟩:=okWide_slice underlying22 hv;obtain⟨m,hm⟩:=h;obtain⟨l,h1,h2⟩:=yjI hm;exact ⟨l,h1,by unfold maxLen at h2;omega⟩
end
section
open Go.ChangeShapes Go.WideShapes Go.ChangeAt
structure FrA where
 num:Int
 den:Int
 up:Nat
 down:Nat
 hn : -9223372036854775808≤num∧num≤9223372036854775807
 hd : -9223372036854775808≤den∧den≤9223372036854775807
 hu:up≤255
 hw:down≤255
def FrA.v (a:FrA):Value:=.agg #[.int .i64 a.num,.int .i64 a.den,.int .u8 a.up,.int .u8 a.down]
end
section
open Go.ChangeShapes Go.WideShapes Go.ChangeAt
theorem cells_str:prog.cellsOf 9=1:=by kernel_rfl
theorem cells_zint:prog.cellsOf 32=2:=by kernel_rfl
theorem cells_zrat:prog.cellsOf 34=4:=by kernel_rfl
theorem cells_zreal:prog.cellsOf 36=9:=by kernel_rfl
theorem cells_zivl:prog.cellsOf 49=20:=by kernel_rfl
theorem slice_ok {w:World} {base:Nat} {t e:TypeId} {a:Option Addr} {len cap:Nat} (ht:prog.underlying t=some (.slice e)) (h:Cell.okWide prog w .any base t (.slice a len cap)) :
  (a=none∧len=0∧cap=0)∨∃ b off,a=some ⟨b,off,none⟩∧len≤cap∧b<w.heap.size:=by
 simp only [Cell.okWide,ht] at h;unfold Cell.ok at h;simp only [ht] at h;cases a with
 | none =>
  left
  cases len with
  | zero =>
   cases cap with
   | zero=>exact ⟨rfl,rfl,rfl⟩
   | succ _=>exact absurd h id
  | succ _=>exact absurd h id
 | some a =>
  right
  have h':len≤cap∧(cap:Int)≤IntKind.i64.max∧w.has prog .any base a e cap:=h;obtain⟨h1,_,_,hs,row,cells,hsh,_⟩:=h';obtain⟨b,off,sp⟩:=a;dsimp only at hs hsh;subst hs;refine ⟨b,off,rfl,h1,?_⟩;unfold World.shape? at hsh;rcases Nat.lt_or_ge b w.heap.size with h|h
  ·exact h
  rw [Array.getElem?_eq_none h] at hsh;cases hsh
section
variable {H:Type} {enc:TypeId × Value→H} {w:World} {base:Nat} {held:Bool} {fuel:Nat}
def Wt (t:TypeId) (d:DataW H) (B:Nat):Prop:=∀ n∈d.weights prog t,n≤B
theorem wt_head {t:TypeId} {ts:List TypeId} {d:DataW H} {r:List (DataW H)} (h:(DataW.weightsEach prog (t :: ts) (d :: r)).all (· ≤ reachBytes)=true):Wt t d reachBytes:=fun n hn=>by
 have:=List.all_eq_true.1 h n (by rw [DataW.weightsEach];exact List.mem_append_left _ hn)
 simpa using this
theorem wt_tail {t:TypeId} {ts:List TypeId} {d:DataW H} {r:List (DataW H)} (h:(DataW.weightsEach prog (t :: ts) (d :: r)).all (· ≤ reachBytes)=true):(DataW.weightsEach prog ts r).all (· ≤ reachBytes)=true:=by
 rw [DataW.weightsEach,List.all_append,Bool.and_eq_true] at h;exact h.2
theorem zint_w (a b:DataW H):(DataW.agg [a,b]:DataW H).weights prog 32=a.weights prog 4++b.weights prog 9:=by
 simp [DataW.weights,DataW.weightsEach,underlying32]
theorem zrat_w (a b:DataW H):(DataW.agg [a,b]:DataW H).weights prog 34=a.weights prog 32++b.weights prog 32:=by
 simp [DataW.weights,DataW.weightsEach,underlying34]
theorem zreal_w (a b c:DataW H):(DataW.agg [a,b,c]:DataW H).weights prog 36=a.weights prog 34++(b.weights prog 34++c.weights prog 4):=by
 simp [DataW.weights,DataW.weightsEach,underlying36]
theorem zivl_w (a b c d:DataW H):(DataW.agg [a,b,c,d]:DataW H).weights prog 49=a.weights prog 36++(b.weights prog 36++(c.weights prog 4++d.weights prog 4)):=by
 simp [DataW.weights,DataW.weightsEach,underlying49]
theorem all_w {e:TypeId} {d:DataW H}:∀ {l:List (DataW H)},d∈l→∀ n∈d.weights prog e,n∈DataW.weightsAll prog e l
 | x :: l,h,n,hn=>by
  rw [DataW.weightsAll];rcases List.mem_cons.1 h with rfl|h
  ·exact List.mem_append_left _ hn
  exact List.mem_append_right _ (all_w h n hn)
theorem ygK {cs:List Value} {x:DataW H × List MemPlace} (h:DataW.trod enc prog w base (fun _=>true) held fuel 32 cs=some x):∃ (b:Bool) (s:ByteArray),cs=[.bool b,.string s]∧∀ B,Wt 32 x.1 B→s.size≤B:=by
 obtain⟨xs,n,_,rfl,hl,hlen,hf⟩:=DataW.trod_struct underlying32 h;rw [cells_zint] at hl
 match cs,hl with
 | [c0,c1],_ =>
  match xs,hlen with
  | [x0,x1],_ =>
   have h0:DataW.trod enc prog w base (fun _=>true) held n 4 (([c0,c1].drop 0).take (prog.cellsOf 4))=some x0:=hf 0 _ rfl;have h1:DataW.trod enc prog w base (fun _=>true) held n 9 (([c0,c1].drop 1).take (prog.cellsOf 9))=some x1:=hf 1 _ rfl;rw [cells_bool] at h0;rw [cells_str] at h1;obtain⟨b,e0,_⟩:=DataW.trod_bool underlying4 h0;obtain⟨s,e1,rfl,_⟩:=DataW.trod_string underlying9 h1;simp at e0 e1;refine ⟨b,s,by rw [e0,e1],fun B hB=>hB _ ?_⟩;simp only [List.map_cons,List.map_nil];rw [zint_w];exact List.mem_append_right _ (by simp [DataW.weights])
theorem yhh {cs:List Value} {x:DataW H × List MemPlace} (h:DataW.trod enc prog w base (fun _=>true) held fuel 34 cs=some x):∃ (b:Bool) (s:ByteArray) (d:Bool) (t:ByteArray),cs=[.bool b,.string s,.bool d,.string t]∧∀ B,Wt 34 x.1 B→s.size≤B∧t.size≤B:=by
 obtain⟨xs,n,_,rfl,hl,hlen,hf⟩:=DataW.trod_struct underlying34 h;rw [cells_zrat] at hl
 match cs,hl with
 | [c0,c1,c2,c3],_ =>
  match xs,hlen with
  | [x0,x1],_ =>
   have h0:DataW.trod enc prog w base (fun _=>true) held n 32 (([c0,c1,c2,c3].drop 0).take (prog.cellsOf 32))=some x0:=hf 0 _ rfl;have h1:DataW.trod enc prog w base (fun _=>true) held n 32 (([c0,c1,c2,c3].drop 2).take (prog.cellsOf 32))=some x1:=hf 1 _ rfl;rw [cells_zint] at h0 h1;obtain⟨b,s,e0,g0⟩:=ygK h0;obtain⟨d,t,e1,g1⟩:=ygK h1;simp at e0 e1;refine ⟨b,s,d,t,by rw [e0.1,e0.2,e1.1,e1.2],fun B hB=>?_⟩;simp only [List.map_cons,List.map_nil,Wt] at hB;rw [zrat_w] at hB;exact ⟨g0 B fun n hn=>hB n (List.mem_append_left _ hn),g1 B fun n hn=>hB n (List.mem_append_right _ hn)⟩
theorem yfB {cs:List Value} {x:DataW H × List MemPlace} (h:DataW.trod enc prog w base (fun _=>true) held fuel 36 cs=some x):∃ r:RawR,cs=r.cells∧∀ B,Wt 36 x.1 B→r.sz B:=by
 obtain⟨xs,n,_,rfl,hl,hlen,hf⟩:=DataW.trod_struct underlying36 h;rw [cells_zreal] at hl
 match cs,hl with
 | [c0,c1,c2,c3,c4,c5,c6,c7,c8],_ =>
  match xs,hlen with
  | [x0,x1,x2],_ =>
   have h0:DataW.trod enc prog w base (fun _=>true) held n 34 (([c0,c1,c2,c3,c4,c5,c6,c7,c8].drop 0).take (prog.cellsOf 34))=some x0:=hf 0 _ rfl;have h1:DataW.trod enc prog w base (fun _=>true) held n 34 (([c0,c1,c2,c3,c4,c5,c6,c7,c8].drop 4).take (prog.cellsOf 34))=some x1:=hf 1 _ rfl;have h2:DataW.trod enc prog w base (fun _=>true) held n 4 (([c0,c1,c2,c3,c4,c5,c6,c7,c8].drop 8).take (prog.cellsOf 4))=some x2:=hf 2 _ rfl;rw [cells_zrat] at h0 h1;rw [cells_bool] at h2;obtain⟨b,s,d,t,e0,g0⟩:=yhh h0;obtain⟨b',s',d',t',e1,g1⟩:=yhh h1;obtain⟨g,e2,_⟩:=DataW.trod_bool underlying4 h2;simp at e0 e1 e2;refine ⟨⟨b,s,d,t,b',s',d',t',g⟩,by simp only [RawR.cells];rw [e0.1,e0.2.1,e0.2.2.1,e0.2.2.2,e1.1,e1.2.1,e1.2.2.1,e1.2.2.2,e2],fun B hB=>?_⟩;simp only [List.map_cons,List.map_nil,Wt] at hB;rw [zreal_w] at hB;have a0:=g0 B fun n hn=>hB n (List.mem_append_left _ hn);have a1:=g1 B fun n hn=>hB n (List.mem_append_right _ (List.mem_append_left _ hn));exact ⟨a0.1,a0.2,a1.1,a1.2⟩
theorem zivl_trod {cs:List Value} {x:DataW H × List MemPlace} (h:DataW.trod enc prog w base (fun _=>true) held fuel 49 cs=some x):∃ r:RawI,cs=r.cells∧∀ B,Wt 49 x.1 B→r.sz B:=by
 obtain⟨xs,n,_,rfl,hl,hlen,hf⟩:=DataW.trod_struct underlying49 h;rw [cells_zivl] at hl
 match cs,hl with
 | [c0,c1,c2,c3,c4,c5,c6,c7,c8,c9,c10,c11,c12,c13,c14,c15,c16,c17,c18,c19],_ =>
  match xs,hlen with
  | [x0,x1,x2,x3],_ =>
   have h0:DataW.trod enc prog w base (fun _=>true) held n 36 (([c0,c1,c2,c3,c4,c5,c6,c7,c8,c9,c10,c11,c12,c13,c14,c15,c16,c17,c18,c19].drop 0).take (prog.cellsOf 36))=some x0:=hf 0 _ rfl;have h1:DataW.trod enc prog w base (fun _=>true) held n 36 (([c0,c1,c2,c3,c4,c5,c6,c7,c8,c9,c10,c11,c12,c13,c14,c15,c16,c17,c18,c19].drop 9).take (prog.cellsOf 36))=some x1:=hf 1 _ rfl;have h2:DataW.trod enc prog w base (fun _=>true) held n 4 (([c0,c1,c2,c3,c4,c5,c6,c7,c8,c9,c10,c11,c12,c13,c14,c15,c16,c17,c18,c19].drop 18).take (prog.cellsOf 4))=some x2:=hf 2 _ rfl;have h3:DataW.trod enc prog w base (fun _=>true) held n 4 (([c0,c1,c2,c3,c4,c5,c6,c7,c8,c9,c10,c11,c12,c13,c14,c15,c16,c17,c18,c19].drop 19).take (prog.cellsOf 4))=some x3:=hf 3 _ rfl;rw [cells_zreal] at h0 h1;rw [cells_bool] at h2 h3;obtain⟨f,e0,g0⟩:=yfB h0;obtain⟨t,e1,g1⟩:=yfB h1;obtain⟨a,e2,_⟩:=DataW.trod_bool underlying4 h2;obtain⟨b,e3,_⟩:=DataW.trod_bool underlying4 h3;refine ⟨⟨f,t,a,b⟩,?_,fun B hB=>?_⟩
   ·unfold RawI.cells
    simp at e0 e1 e2 e3;rw [← e0,← e1,e2,e3];rfl
   simp only [List.map_cons,List.map_nil,Wt] at hB;rw [zivl_w] at hB;exact ⟨g0 B fun n hn=>hB n (List.mem_append_left _ hn),g1 B fun n hn=>hB n (List.mem_append_right _ (List.mem_append_left _ hn))⟩
theorem yji {sv:Value} {x:DataW H × List MemPlace} (h:DataW.trod enc prog w base (fun _=>true) held fuel 27 [sv]=some x) {base2:Nat} (hok:Cell.okWide prog w .any base2 27 sv) :
  ∃ l:List RawI,RIR w sv l∧l.length≤maxLen∧∀ B,Wt 27 x.1 B→∀ r∈l,r.sz B:=by
 rcases Go.Deep.open_slice underlying27 h with ⟨hcs,_⟩|⟨a,len,cap,m,n,D,Pl,hcs,_,hl,hm,hmm,hx,hel⟩
 ·simp at hcs;exact ⟨[],.inl ⟨hcs,rfl⟩,by simp,fun _ _ _ h=>by cases h⟩
 simp at hcs hmm;by_cases h0:len=0
 ·subst h0
  rw [hcs] at hok;rcases slice_ok underlying27 hok with ⟨h,_⟩|⟨b,off,h,_,hb⟩
  ·cases h
  injection h with h;subst h;exact ⟨[],.inr ⟨b,off,cap,hcs,by simp,hb,fun t v hv=>by simp at hv⟩,by simp,fun _ _ _ h=>by cases h⟩
 have hall:∀ i,i<cap→∃ s:RawI,w.cells? base (a.add (i*20)) 20=some s.cells∧∀ B,Wt 49 (D i) B→s.sz B:=by
  intro i hi;obtain⟨cs',h1,h2⟩:=hel i (by omega);rw [cells_zivl] at h1;obtain⟨s,rfl,hs⟩:=zivl_trod h2;exact ⟨s,h1,hs⟩
 have hfun:∃ f:Nat→RawI,∀ i,i<cap→w.cells? base (a.add (i*20)) 20=some (f i).cells∧∀ B,Wt 49 (D i) B→(f i).sz B:=by
  obtain⟨s0,_⟩:=hall 0 (by omega);exact ⟨fun i=>if h:i<cap then Classical.choose (hall i h) else s0,fun i hi=>by simp only [hi,dif_pos];exact Classical.choose_spec (hall i hi)⟩
 obtain⟨f,hff⟩:=hfun;have hf:∀ i,i<cap→w.cells? base (a.add (i*20)) 20=some (f i).cells:=fun i hi=>(hff i hi).1;have hc0:=(cells?_get (hf 0 (by omega))).2 0 (by omega);obtain⟨b,off,hp⟩:=ydA (v:=.bool (f 0).f.a1) (by simpa [RawI.cells,RawR.cells] using hc0);have ha:a=⟨b,off,none⟩:=by unfold Addr.add at hp;simpa using hp
 subst ha;refine ⟨(List.range len).map f,?_,by simp;omega,fun B hB r hr=>?_⟩
 rotate_left
 ·obtain⟨i,hi,rfl⟩:=List.mem_map.1 hr
  have hi':=List.mem_range.1 hi;refine (hff i (by omega)).2 B fun k hk=>hB k ?_;rw [hx];simp only [DataW.weights,underlying27];exact List.mem_cons_of_mem _ (List.mem_append_left _ (all_w (List.mem_map_of_mem hi) k hk))
 refine .inr ⟨b,off,cap,by simpa using hcs,by simp;omega,?_,fun t v hv=>?_⟩
 ·exact World.block_lt_of_cell? w _ (by
   have e:=hc0;rw [ybs,ybs] at e;simp only [Nat.zero_mul,Nat.add_zero] at e
   exact e.trans (by simp [RawI.cells,RawR.cells];rfl))
 have ht:t<len*20:=by
  have:=(List.getElem?_eq_some_iff.1 hv).1;rw [ybz (fun r:RawI=>r.cells) yeh] at this
  simpa using this
 have hi:t / 20<len:=Nat.div_lt_of_lt_mul (by rw [Nat.mul_comm];exact ht);have hj:t % 20<20:=Nat.mod_lt _ (by decide);have h1:=ydw (fun r:RawI=>r.cells) yeh ((List.range len).map f) (t / 20) (t % 20) (by simpa using hi) hj;rw [Nat.div_add_mod' t 20,hv] at h1;have h2:=(cells?_get (hf (t / 20) (by omega))).2 (t % 20) hj;rw [ybs,ybs,Nat.add_assoc,Nat.div_add_mod' t 20] at h2;rw [h2,h1];simp
end
def RIArg (w:World) (v:Value):Prop:=∃ l:List RawI,RIR w v l∧l.length≤9223372036854775807∧∀ r∈l,r.sz 140737488351232
theorem RIArg_open {H:Type} {enc:TypeId × Value→H} {W:World} {v:Value} {base:Nat} {d:DataW H} {p:List MemPlace} (hv:Value.okWide prog W .any base 27 v)
  (h:∃ m,DataW.trod enc prog W 0 (fun _=>true) true m 27 v.cells.toList=some (d,p)) (hw:Wt 27 d reachBytes):RIArg W v:=by
 obtain⟨a,len,cap,rfl⟩:=okWide_slice underlying27 hv;obtain⟨m,hm⟩:=h
 have hok:Cell.okWide prog W .any base 27 (.slice a len cap):=by
  simp only [Value.okWide,underlying27] at hv;exact hv
 obtain⟨l,h1,h2,h3⟩:=yji hm hok;exact ⟨l,h1,by unfold maxLen at h2;omega,h3 _ hw⟩
end
end Go.Proofs.YtejegogbhpmgfaaGreatDoor
