/- Parts of a proof about this translation: Rk. -/
import Derived.Test.YtejegogbhpmgfaaGreatDoorA12
import Derived.Test.YtejegogbhpmgfaaGreatDoorA14
set_option linter.unusedVariables false
set_option linter.unusedSimpArgs false
set_option maxRecDepth 100000
set_option maxHeartbeats 8000000
namespace Go.Proofs.YtejegogbhpmgfaaGreatDoor
open Go.RowKit
theorem al_rat (ev:Operand→Value) (w:World) (o:Oper) (ho:o.op = .alloc 34):(execOp ev o).run Tryz.prog w = .ok (.value (.pointer (some ⟨w.heap.size,0,none⟩))) (w.alloc (.cells #[.bool false,.string ⟨#[]⟩,.bool false,.string ⟨#[]⟩] 34)):=by
 unfold execOp
 simp only [ho]
 go_simp
theorem cmp_low (xa xd xg ya yd yg da ua va ta:Bool) (xb xc xe xf yb yc ye yf db dc ub uc vb vc tb tc:ByteArray) (ma mb mr n:Int) (hn:mb*mr=n) (hm : -1≤ma∧ma≤1) (hn1 : -1≤n∧n≤1) (hc:n=0∨ma=n∨ma=0)
  (Hsub:Hid (∀ w,Calls Tryz.prog 116 #[.agg #[.bool xa,.string xb,.bool false,.string xc],.agg #[.bool ya,.string yb,.bool false,.string yc]] w fun e w'=>e = .returned (.agg #[.bool da,.string db,.bool false,.string dc])∧Keep [] w w'))
  (Hfx:Hid (∀ w,Calls Tryz.prog 117 #[.agg #[.bool xa,.string xb,.bool false,.string xc,.bool xd,.string xe,.bool false,.string xf,.bool xg]] w fun e w'=>e = .returned (.agg #[.bool ua,.string ub,.bool false,.string uc])∧Keep [] w w'))
  (Hfy:Hid (∀ w,Calls Tryz.prog 117 #[.agg #[.bool ya,.string yb,.bool false,.string yc,.bool yd,.string ye,.bool false,.string yf,.bool yg]] w fun e w'=>e = .returned (.agg #[.bool va,.string vb,.bool false,.string vc])∧Keep [] w w'))
  (Hng:Hid (∀ w,Calls Tryz.prog 118 #[.agg #[.bool va,.string vb,.bool false,.string vc]] w fun e w'=>e = .returned (.agg #[.bool ta,.string tb,.bool false,.string tc])∧Keep [] w w'))
  (Hsg:Hid (∀ w,Calls Tryz.prog 119 #[.agg #[.bool da,.string db,.bool false,.string dc],.agg #[.bool ua,.string ub,.bool false,.string uc],.agg #[.bool xd,.string xe,.bool false,.string xf]] w fun e w'=>e = .returned (.int .i64 ma)∧Keep [] w w'))
  (Hst:Hid (∀ w,Calls Tryz.prog 85 #[.agg #[.bool ta,.string tb,.bool false,.string tc]] w fun e w'=>e = .returned (.int .i64 mb)∧Keep [] w w'))
  (Hsy:Hid (∀ w,Calls Tryz.prog 85 #[.agg #[.bool yd,.string ye,.bool false,.string yf]] w fun e w'=>e = .returned (.int .i64 mr)∧Keep [] w w'))
  (w:World) :
  Calls Tryz.prog 77 #[.agg #[.bool xa,.string xb,.bool false,.string xc,.bool xd,.string xe,.bool false,.string xf,.bool xg],.agg #[.bool ya,.string yb,.bool false,.string yc,.bool yd,.string ye,.bool false,.string yf,.bool yg]] w fun e w'=>e = .returned (.int .i64 (if n=0∨ma=n then ma else n))∧Keep [] w w':=by
 have hw:IntKind.i64.wrap n=n:=by simp [IntKind.wrap,IntKind.bits,IntKind.signed];omega
 by_cases h0:n=0
 ·rw [if_pos (.inl h0)]
  have t0:(n == 0)=true:=by simpa using h0
  clear hc
  go_enter Tryz.func77,Tryz.ntmps77
  go_wp2_with fail
  obtain⟨W,ga,gb,hW,ega,egb,bga,bgb,hga,hgb,hgW,hkW⟩:=al2 w (.cells #[.bool xa,.string xb,.bool false,.string xc,.bool xd,.string xe,.bool false,.string xf,.bool xg] 36) (.cells #[.bool ya,.string yb,.bool false,.string yc,.bool yd,.string ye,.bool false,.string yf,.bool yg] 36)
  rw [← hW]
  try rw [egb]
  try rw [ega]
  have Bga:=jX bga
  have Bgb:=jX bgb
  have HkW:=jX hkW
  clear hW hkW ega egb bga bgb
  refine wp_region_new 13 [(5,34),(6,34),(7,34)] (fun _=>.cells #[.bool false,.string ⟨#[]⟩,.bool false,.string ⟨#[]⟩] 34) (by kernel_rfl) (by kernel_rfl) (by kernel_rfl) (fun t ht ev w o ho=>by simp at ht;subst ht;exact al_rat ev w o ho) ?_
  intro U hU
  have kga:=kw_cells (hU.heap Bga.out (by simp))
  have kgb:=kw_cells (hU.heap Bgb.out (by simp))
  have Q1:Hid (∀ m:KW U,Calls Tryz.prog 116 #[.agg #[.bool xa,.string xb,.bool false,.string xc],.agg #[.bool ya,.string yb,.bool false,.string yc]] (Wk U m) fun e w'=>e = .returned (.agg #[.bool da,.string db,.bool false,.string dc])∧∃ m,w'=Wk U m):=fun m=>qk m (Hsub.out _)
  have Q2:Hid (∀ m:KW U,Calls Tryz.prog 117 #[.agg #[.bool xa,.string xb,.bool false,.string xc,.bool xd,.string xe,.bool false,.string xf,.bool xg]] (Wk U m) fun e w'=>e = .returned (.agg #[.bool ua,.string ub,.bool false,.string uc])∧∃ m,w'=Wk U m):=fun m=>qk m (Hfx.out _)
  have Q3:Hid (∀ m:KW U,Calls Tryz.prog 117 #[.agg #[.bool ya,.string yb,.bool false,.string yc,.bool yd,.string ye,.bool false,.string yf,.bool yg]] (Wk U m) fun e w'=>e = .returned (.agg #[.bool va,.string vb,.bool false,.string vc])∧∃ m,w'=Wk U m):=fun m=>qk m (Hfy.out _)
  have Q4:Hid (∀ m:KW U,Calls Tryz.prog 118 #[.agg #[.bool va,.string vb,.bool false,.string vc]] (Wk U m) fun e w'=>e = .returned (.agg #[.bool ta,.string tb,.bool false,.string tc])∧∃ m,w'=Wk U m):=fun m=>qk m (Hng.out _)
  clear Hsub Hfx Hfy Hng
  simp only [List.map_cons,List.map_nil,unal,isAl,if_true,if_false,Bool.false_eq_true,List.take_succ_cons,List.take_zero]
  repeat (first
   | go_big_quiet_skip
   | (go_big_quiet_want;go_big_quiet_op;first|go_big_quiet_on|go_big_quiet_call (first
    | (go_at_call 116;with_reducible exact (Q1).out _)|(go_at_call 117;with_reducible exact (Q2).out _)|(go_at_call 117;with_reducible exact (Q3).out _)|(go_at_call 118;with_reducible exact (Q4).out _))))
  refine wpQuiet_nil ?_
  intro p hp1 hp2 w1 hk_w1 hz
  have bgc:=hz (5,34) (by simp)
  have bgd:=hz (6,34) (by simp)
  have bge:=hz (7,34) (by simp)
  have hgc:=hp1 5 (by simp)
  have hgd:=hp1 6 (by simp)
  have hge:=hp1 7 (by simp)
  have n1:p 5≠p 6:=fun h=>absurd (hp2 5 (by simp) 6 (by simp) h) (by decide)
  have n2:p 5≠p 7:=fun h=>absurd (hp2 5 (by simp) 7 (by simp) h) (by decide)
  have n3:p 6≠p 7:=fun h=>absurd (hp2 6 (by simp) 7 (by simp) h) (by decide)
  simp only [List.map_cons,List.map_nil,pl,List.drop_succ_cons,List.drop_zero]
  dsimp only at bgc bgd bge
  generalize p 5=gc at *
  generalize p 6=gd at *
  generalize p 7=ge at *
  have Bgc:=jX bgc
  have Bgd:=jX bgd
  have Bge:=jX bge
  clear kga kgb Q1 Q2 Q3 Q4 hz hp1 hp2 bgc bgd bge hU p U
  have B2ga:=jX (hk_w1.heap Bga.out (by simp))
  have B2gb:=jX (hk_w1.heap Bgb.out (by simp))
  have HkW2:=jX (HkW.out.trans0 hk_w1)
  clear HkW hk_w1 Bga Bgb
  have Bga:=B2ga
  have Bgb:=B2gb
  have HkW:=HkW2
  clear HkW2 B2ga B2gb
  have pgc:=cell_of Bgc.out
  have fgc:=frozen_of Bgc.out
  have lgc:=lt_of_heap Bgc.out
  have pgd:=cell_of Bgd.out
  have fgd:=frozen_of Bgd.out
  have lgd:=lt_of_heap Bgd.out
  have pge:=cell_of Bge.out
  have fge:=frozen_of Bge.out
  have lge:=lt_of_heap Bge.out
  have e1:gd≠gc:=Ne.symm n1
  have e2:ge≠gc:=Ne.symm n2
  have e3:ge≠gd:=Ne.symm n3
  go_simp
  go_wp2_with fail
  clear pgc pgd pge fgc fgd fge lgc lgd lge
  obtain⟨X1,hW2,bgc,hkW2⟩:=st4 (x:=.bool da) (y:=.string db) (z:=.bool false) (u:=.string dc) (Bgc.out:(w1).heap[gc]? = _)
  rw [← hW2]
  clear Bgc
  have Bgc:=jX bgc
  clear hW2 bgc
  have B2ga:=jX (hkW2.heap Bga.out (by simp;omega))
  clear Bga
  have Bga:=B2ga
  clear B2ga
  have B2gb:=jX (hkW2.heap Bgb.out (by simp;omega))
  clear Bgb
  have Bgb:=B2gb
  clear B2gb
  have B2gd:=jX (hkW2.heap Bgd.out (by simp;omega))
  clear Bgd
  have Bgd:=B2gd
  clear B2gd
  have B2ge:=jX (hkW2.heap Bge.out (by simp;omega))
  clear Bge
  have Bge:=B2ge
  clear B2ge
  have HkW2:=jX (HkW.out.trans hkW2 (by simp;omega))
  clear HkW hkW2
  have HkW:=HkW2
  clear HkW2
  obtain⟨X2,hW2,bgd,hkW2⟩:=st4 (x:=.bool ua) (y:=.string ub) (z:=.bool false) (u:=.string uc) (Bgd.out:(X1).heap[gd]? = _)
  rw [← hW2]
  clear Bgd
  have Bgd:=jX bgd
  clear hW2 bgd
  have B2ga:=jX (hkW2.heap Bga.out (by simp;omega))
  clear Bga
  have Bga:=B2ga
  clear B2ga
  have B2gb:=jX (hkW2.heap Bgb.out (by simp;omega))
  clear Bgb
  have Bgb:=B2gb
  clear B2gb
  have B2gc:=jX (hkW2.heap Bgc.out (by simp;omega))
  clear Bgc
  have Bgc:=B2gc
  clear B2gc
  have B2ge:=jX (hkW2.heap Bge.out (by simp;omega))
  clear Bge
  have Bge:=B2ge
  clear B2ge
  have HkW2:=jX (HkW.out.trans hkW2 (by simp;omega))
  clear HkW hkW2
  have HkW:=HkW2
  clear HkW2
  obtain⟨W2,hW2,bge,hkW2⟩:=st4 (x:=.bool ta) (y:=.string tb) (z:=.bool false) (u:=.string tc) (Bge.out:(X2).heap[ge]? = _)
  rw [← hW2]
  clear Bge
  have Bge:=jX bge
  clear hW2 bge
  have B2ga:=jX (hkW2.heap Bga.out (by simp;omega))
  clear Bga
  have Bga:=B2ga
  clear B2ga
  have B2gb:=jX (hkW2.heap Bgb.out (by simp;omega))
  clear Bgb
  have Bgb:=B2gb
  clear B2gb
  have B2gc:=jX (hkW2.heap Bgc.out (by simp;omega))
  clear Bgc
  have Bgc:=B2gc
  clear B2gc
  have B2gd:=jX (hkW2.heap Bgd.out (by simp;omega))
  clear Bgd
  have Bgd:=B2gd
  clear B2gd
  have HkW2:=jX (HkW.out.trans hkW2 (by simp;omega))
  clear HkW hkW2
  have HkW:=HkW2
  clear HkW2
  have kga:=kw_cells Bga.out
  have kgb:=kw_cells Bgb.out
  have kgc:=kw_cells Bgc.out
  have kgd:=kw_cells Bgd.out
  have kge:=kw_cells Bge.out
  have Q1:Hid (∀ m:KW W2,Calls Tryz.prog 119 #[.agg #[.bool da,.string db,.bool false,.string dc],.agg #[.bool ua,.string ub,.bool false,.string uc],.agg #[.bool xd,.string xe,.bool false,.string xf]] (Wk W2 m) fun e w'=>e = .returned (.int .i64 ma)∧∃ m,w'=Wk W2 m):=fun m=>qk m (Hsg.out _)
  have Q2:Hid (∀ m:KW W2,Calls Tryz.prog 85 #[.agg #[.bool ta,.string tb,.bool false,.string tc]] (Wk W2 m) fun e w'=>e = .returned (.int .i64 mb)∧∃ m,w'=Wk W2 m):=fun m=>qk m (Hst.out _)
  have Q3:Hid (∀ m:KW W2,Calls Tryz.prog 85 #[.agg #[.bool yd,.string ye,.bool false,.string yf]] (Wk W2 m) fun e w'=>e = .returned (.int .i64 mr)∧∃ m,w'=Wk W2 m):=fun m=>qk m (Hsy.out _)
  clear Hsg Hst Hsy
  refine wp_region_keep (by kernel_rfl) (by kernel_rfl) ?_
  repeat (first
   | go_big_quiet_skip
   | (go_big_quiet_want;go_big_quiet_op;first|go_big_quiet_on|go_big_quiet_call (first
    | (go_at_call 119;with_reducible exact (Q1).out _)|(go_at_call 85;with_reducible exact (Q2).out _)|(go_at_call 85;with_reducible exact (Q3).out _))))
  refine wpQuiet_nil ?_
  rintro w3 ⟨⟨_,hk_w3⟩,rfl⟩
  clear kga kgb kgc kgd kge Q1 Q2 Q3
  have Hk:=jX (HkW.out.trans0 hk_w3)
  clear hk_w3
  go_wp2_with fail
  go_ret
  exact ⟨rfl,Hk.out⟩
 ·have t0:(n == 0)=false:=by simpa using h0
  by_cases h1:ma=n
  ·rw [if_pos (.inr h1)]
   have t1:(ma == n)=true:=by simpa using h1
   have H1:=jX h1
   clear hc h1
   go_enter Tryz.func77,Tryz.ntmps77
   go_wp2_with fail
   obtain⟨W,ga,gb,hW,ega,egb,bga,bgb,hga,hgb,hgW,hkW⟩:=al2 w (.cells #[.bool xa,.string xb,.bool false,.string xc,.bool xd,.string xe,.bool false,.string xf,.bool xg] 36) (.cells #[.bool ya,.string yb,.bool false,.string yc,.bool yd,.string ye,.bool false,.string yf,.bool yg] 36)
   rw [← hW]
   try rw [egb]
   try rw [ega]
   have Bga:=jX bga
   have Bgb:=jX bgb
   have HkW:=jX hkW
   clear hW hkW ega egb bga bgb
   refine wp_region_new 13 [(5,34),(6,34),(7,34)] (fun _=>.cells #[.bool false,.string ⟨#[]⟩,.bool false,.string ⟨#[]⟩] 34) (by kernel_rfl) (by kernel_rfl) (by kernel_rfl) (fun t ht ev w o ho=>by simp at ht;subst ht;exact al_rat ev w o ho) ?_
   intro U hU
   have kga:=kw_cells (hU.heap Bga.out (by simp))
   have kgb:=kw_cells (hU.heap Bgb.out (by simp))
   have Q1:Hid (∀ m:KW U,Calls Tryz.prog 116 #[.agg #[.bool xa,.string xb,.bool false,.string xc],.agg #[.bool ya,.string yb,.bool false,.string yc]] (Wk U m) fun e w'=>e = .returned (.agg #[.bool da,.string db,.bool false,.string dc])∧∃ m,w'=Wk U m):=fun m=>qk m (Hsub.out _)
   have Q2:Hid (∀ m:KW U,Calls Tryz.prog 117 #[.agg #[.bool xa,.string xb,.bool false,.string xc,.bool xd,.string xe,.bool false,.string xf,.bool xg]] (Wk U m) fun e w'=>e = .returned (.agg #[.bool ua,.string ub,.bool false,.string uc])∧∃ m,w'=Wk U m):=fun m=>qk m (Hfx.out _)
   have Q3:Hid (∀ m:KW U,Calls Tryz.prog 117 #[.agg #[.bool ya,.string yb,.bool false,.string yc,.bool yd,.string ye,.bool false,.string yf,.bool yg]] (Wk U m) fun e w'=>e = .returned (.agg #[.bool va,.string vb,.bool false,.string vc])∧∃ m,w'=Wk U m):=fun m=>qk m (Hfy.out _)
   have Q4:Hid (∀ m:KW U,Calls Tryz.prog 118 #[.agg #[.bool va,.string vb,.bool false,.string vc]] (Wk U m) fun e w'=>e = .returned (.agg #[.bool ta,.string tb,.bool false,.string tc])∧∃ m,w'=Wk U m):=fun m=>qk m (Hng.out _)
   clear Hsub Hfx Hfy Hng
   simp only [List.map_cons,List.map_nil,unal,isAl,if_true,if_false,Bool.false_eq_true,List.take_succ_cons,List.take_zero]
   repeat (first
    | go_big_quiet_skip
    | (go_big_quiet_want;go_big_quiet_op;first|go_big_quiet_on|go_big_quiet_call (first
     | (go_at_call 116;with_reducible exact (Q1).out _)|(go_at_call 117;with_reducible exact (Q2).out _)|(go_at_call 117;with_reducible exact (Q3).out _)|(go_at_call 118;with_reducible exact (Q4).out _))))
   refine wpQuiet_nil ?_
   intro p hp1 hp2 w1 hk_w1 hz
   have bgc:=hz (5,34) (by simp)
   have bgd:=hz (6,34) (by simp)
   have bge:=hz (7,34) (by simp)
   have hgc:=hp1 5 (by simp)
   have hgd:=hp1 6 (by simp)
   have hge:=hp1 7 (by simp)
   have n1:p 5≠p 6:=fun h=>absurd (hp2 5 (by simp) 6 (by simp) h) (by decide)
   have n2:p 5≠p 7:=fun h=>absurd (hp2 5 (by simp) 7 (by simp) h) (by decide)
   have n3:p 6≠p 7:=fun h=>absurd (hp2 6 (by simp) 7 (by simp) h) (by decide)
   simp only [List.map_cons,List.map_nil,pl,List.drop_succ_cons,List.drop_zero]
   dsimp only at bgc bgd bge
   generalize p 5=gc at *
   generalize p 6=gd at *
   generalize p 7=ge at *
   have Bgc:=jX bgc
   have Bgd:=jX bgd
   have Bge:=jX bge
   clear kga kgb Q1 Q2 Q3 Q4 hz hp1 hp2 bgc bgd bge hU p U
   have B2ga:=jX (hk_w1.heap Bga.out (by simp))
   have B2gb:=jX (hk_w1.heap Bgb.out (by simp))
   have HkW2:=jX (HkW.out.trans0 hk_w1)
   clear HkW hk_w1 Bga Bgb
   have Bga:=B2ga
   have Bgb:=B2gb
   have HkW:=HkW2
   clear HkW2 B2ga B2gb
   have pgc:=cell_of Bgc.out
   have fgc:=frozen_of Bgc.out
   have lgc:=lt_of_heap Bgc.out
   have pgd:=cell_of Bgd.out
   have fgd:=frozen_of Bgd.out
   have lgd:=lt_of_heap Bgd.out
   have pge:=cell_of Bge.out
   have fge:=frozen_of Bge.out
   have lge:=lt_of_heap Bge.out
   have e1:gd≠gc:=Ne.symm n1
   have e2:ge≠gc:=Ne.symm n2
   have e3:ge≠gd:=Ne.symm n3
   go_simp
   go_wp2_with fail
   clear pgc pgd pge fgc fgd fge lgc lgd lge
   obtain⟨X1,hW2,bgc,hkW2⟩:=st4 (x:=.bool da) (y:=.string db) (z:=.bool false) (u:=.string dc) (Bgc.out:(w1).heap[gc]? = _)
   rw [← hW2]
   clear Bgc
   have Bgc:=jX bgc
   clear hW2 bgc
   have B2ga:=jX (hkW2.heap Bga.out (by simp;omega))
   clear Bga
   have Bga:=B2ga
   clear B2ga
   have B2gb:=jX (hkW2.heap Bgb.out (by simp;omega))
   clear Bgb
   have Bgb:=B2gb
   clear B2gb
   have B2gd:=jX (hkW2.heap Bgd.out (by simp;omega))
   clear Bgd
   have Bgd:=B2gd
   clear B2gd
   have B2ge:=jX (hkW2.heap Bge.out (by simp;omega))
   clear Bge
   have Bge:=B2ge
   clear B2ge
   have HkW2:=jX (HkW.out.trans hkW2 (by simp;omega))
   clear HkW hkW2
   have HkW:=HkW2
   clear HkW2
   obtain⟨X2,hW2,bgd,hkW2⟩:=st4 (x:=.bool ua) (y:=.string ub) (z:=.bool false) (u:=.string uc) (Bgd.out:(X1).heap[gd]? = _)
   rw [← hW2]
   clear Bgd
   have Bgd:=jX bgd
   clear hW2 bgd
   have B2ga:=jX (hkW2.heap Bga.out (by simp;omega))
   clear Bga
   have Bga:=B2ga
   clear B2ga
   have B2gb:=jX (hkW2.heap Bgb.out (by simp;omega))
   clear Bgb
   have Bgb:=B2gb
   clear B2gb
   have B2gc:=jX (hkW2.heap Bgc.out (by simp;omega))
   clear Bgc
   have Bgc:=B2gc
   clear B2gc
   have B2ge:=jX (hkW2.heap Bge.out (by simp;omega))
   clear Bge
   have Bge:=B2ge
   clear B2ge
   have HkW2:=jX (HkW.out.trans hkW2 (by simp;omega))
   clear HkW hkW2
   have HkW:=HkW2
   clear HkW2
   obtain⟨W2,hW2,bge,hkW2⟩:=st4 (x:=.bool ta) (y:=.string tb) (z:=.bool false) (u:=.string tc) (Bge.out:(X2).heap[ge]? = _)
   rw [← hW2]
   clear Bge
   have Bge:=jX bge
   clear hW2 bge
   have B2ga:=jX (hkW2.heap Bga.out (by simp;omega))
   clear Bga
   have Bga:=B2ga
   clear B2ga
   have B2gb:=jX (hkW2.heap Bgb.out (by simp;omega))
   clear Bgb
   have Bgb:=B2gb
   clear B2gb
   have B2gc:=jX (hkW2.heap Bgc.out (by simp;omega))
   clear Bgc
   have Bgc:=B2gc
   clear B2gc
   have B2gd:=jX (hkW2.heap Bgd.out (by simp;omega))
   clear Bgd
   have Bgd:=B2gd
   clear B2gd
   have HkW2:=jX (HkW.out.trans hkW2 (by simp;omega))
   clear HkW hkW2
   have HkW:=HkW2
   clear HkW2
   have kga:=kw_cells Bga.out
   have kgb:=kw_cells Bgb.out
   have kgc:=kw_cells Bgc.out
   have kgd:=kw_cells Bgd.out
   have kge:=kw_cells Bge.out
   have Q1:Hid (∀ m:KW W2,Calls Tryz.prog 119 #[.agg #[.bool da,.string db,.bool false,.string dc],.agg #[.bool ua,.string ub,.bool false,.string uc],.agg #[.bool xd,.string xe,.bool false,.string xf]] (Wk W2 m) fun e w'=>e = .returned (.int .i64 ma)∧∃ m,w'=Wk W2 m):=fun m=>qk m (Hsg.out _)
   have Q2:Hid (∀ m:KW W2,Calls Tryz.prog 85 #[.agg #[.bool ta,.string tb,.bool false,.string tc]] (Wk W2 m) fun e w'=>e = .returned (.int .i64 mb)∧∃ m,w'=Wk W2 m):=fun m=>qk m (Hst.out _)
   have Q3:Hid (∀ m:KW W2,Calls Tryz.prog 85 #[.agg #[.bool yd,.string ye,.bool false,.string yf]] (Wk W2 m) fun e w'=>e = .returned (.int .i64 mr)∧∃ m,w'=Wk W2 m):=fun m=>qk m (Hsy.out _)
   clear Hsg Hst Hsy
   refine wp_region_keep (by kernel_rfl) (by kernel_rfl) ?_
   repeat (first
    | go_big_quiet_skip
    | (go_big_quiet_want;go_big_quiet_op;first|go_big_quiet_on|go_big_quiet_call (first
     | (go_at_call 119;with_reducible exact (Q1).out _)|(go_at_call 85;with_reducible exact (Q2).out _)|(go_at_call 85;with_reducible exact (Q3).out _))))
   refine wpQuiet_nil ?_
   rintro w3 ⟨⟨_,hk_w3⟩,rfl⟩
   clear kga kgb kgc kgd kge Q1 Q2 Q3
   have Hk:=jX (HkW.out.trans0 hk_w3)
   clear hk_w3
   go_wp2_with fail
   go_ret
   exact ⟨rfl,Hk.out⟩
  ·have h2:ma=0:=by rcases hc with h|h|h<;>simp_all
   rw [if_neg (by rintro (h|h)<;>simp_all)]
   have t1:(ma == n)=false:=by simpa using h1
   have t2:(ma == 0)=true:=by simpa using h2
   clear hc h1 h0 h2
   go_enter Tryz.func77,Tryz.ntmps77
   go_wp2_with fail
   obtain⟨W,ga,gb,hW,ega,egb,bga,bgb,hga,hgb,hgW,hkW⟩:=al2 w (.cells #[.bool xa,.string xb,.bool false,.string xc,.bool xd,.string xe,.bool false,.string xf,.bool xg] 36) (.cells #[.bool ya,.string yb,.bool false,.string yc,.bool yd,.string ye,.bool false,.string yf,.bool yg] 36)
   rw [← hW]
   try rw [egb]
   try rw [ega]
   have Bga:=jX bga
   have Bgb:=jX bgb
   have HkW:=jX hkW
   clear hW hkW ega egb bga bgb
   refine wp_region_new 13 [(5,34),(6,34),(7,34)] (fun _=>.cells #[.bool false,.string ⟨#[]⟩,.bool false,.string ⟨#[]⟩] 34) (by kernel_rfl) (by kernel_rfl) (by kernel_rfl) (fun t ht ev w o ho=>by simp at ht;subst ht;exact al_rat ev w o ho) ?_
   intro U hU
   have kga:=kw_cells (hU.heap Bga.out (by simp))
   have kgb:=kw_cells (hU.heap Bgb.out (by simp))
   have Q1:Hid (∀ m:KW U,Calls Tryz.prog 116 #[.agg #[.bool xa,.string xb,.bool false,.string xc],.agg #[.bool ya,.string yb,.bool false,.string yc]] (Wk U m) fun e w'=>e = .returned (.agg #[.bool da,.string db,.bool false,.string dc])∧∃ m,w'=Wk U m):=fun m=>qk m (Hsub.out _)
   have Q2:Hid (∀ m:KW U,Calls Tryz.prog 117 #[.agg #[.bool xa,.string xb,.bool false,.string xc,.bool xd,.string xe,.bool false,.string xf,.bool xg]] (Wk U m) fun e w'=>e = .returned (.agg #[.bool ua,.string ub,.bool false,.string uc])∧∃ m,w'=Wk U m):=fun m=>qk m (Hfx.out _)
   have Q3:Hid (∀ m:KW U,Calls Tryz.prog 117 #[.agg #[.bool ya,.string yb,.bool false,.string yc,.bool yd,.string ye,.bool false,.string yf,.bool yg]] (Wk U m) fun e w'=>e = .returned (.agg #[.bool va,.string vb,.bool false,.string vc])∧∃ m,w'=Wk U m):=fun m=>qk m (Hfy.out _)
   have Q4:Hid (∀ m:KW U,Calls Tryz.prog 118 #[.agg #[.bool va,.string vb,.bool false,.string vc]] (Wk U m) fun e w'=>e = .returned (.agg #[.bool ta,.string tb,.bool false,.string tc])∧∃ m,w'=Wk U m):=fun m=>qk m (Hng.out _)
   clear Hsub Hfx Hfy Hng
   simp only [List.map_cons,List.map_nil,unal,isAl,if_true,if_false,Bool.false_eq_true,List.take_succ_cons,List.take_zero]
   repeat (first
    | go_big_quiet_skip
    | (go_big_quiet_want;go_big_quiet_op;first|go_big_quiet_on|go_big_quiet_call (first
     | (go_at_call 116;with_reducible exact (Q1).out _)|(go_at_call 117;with_reducible exact (Q2).out _)|(go_at_call 117;with_reducible exact (Q3).out _)|(go_at_call 118;with_reducible exact (Q4).out _))))
   refine wpQuiet_nil ?_
   intro p hp1 hp2 w1 hk_w1 hz
   have bgc:=hz (5,34) (by simp)
   have bgd:=hz (6,34) (by simp)
   have bge:=hz (7,34) (by simp)
   have hgc:=hp1 5 (by simp)
   have hgd:=hp1 6 (by simp)
   have hge:=hp1 7 (by simp)
   have n1:p 5≠p 6:=fun h=>absurd (hp2 5 (by simp) 6 (by simp) h) (by decide)
   have n2:p 5≠p 7:=fun h=>absurd (hp2 5 (by simp) 7 (by simp) h) (by decide)
   have n3:p 6≠p 7:=fun h=>absurd (hp2 6 (by simp) 7 (by simp) h) (by decide)
   simp only [List.map_cons,List.map_nil,pl,List.drop_succ_cons,List.drop_zero]
   dsimp only at bgc bgd bge
   generalize p 5=gc at *
   generalize p 6=gd at *
   generalize p 7=ge at *
   have Bgc:=jX bgc
   have Bgd:=jX bgd
   have Bge:=jX bge
   clear kga kgb Q1 Q2 Q3 Q4 hz hp1 hp2 bgc bgd bge hU p U
   have B2ga:=jX (hk_w1.heap Bga.out (by simp))
   have B2gb:=jX (hk_w1.heap Bgb.out (by simp))
   have HkW2:=jX (HkW.out.trans0 hk_w1)
   clear HkW hk_w1 Bga Bgb
   have Bga:=B2ga
   have Bgb:=B2gb
   have HkW:=HkW2
   clear HkW2 B2ga B2gb
   have pgc:=cell_of Bgc.out
   have fgc:=frozen_of Bgc.out
   have lgc:=lt_of_heap Bgc.out
   have pgd:=cell_of Bgd.out
   have fgd:=frozen_of Bgd.out
   have lgd:=lt_of_heap Bgd.out
   have pge:=cell_of Bge.out
   have fge:=frozen_of Bge.out
   have lge:=lt_of_heap Bge.out
   have e1:gd≠gc:=Ne.symm n1
   have e2:ge≠gc:=Ne.symm n2
   have e3:ge≠gd:=Ne.symm n3
   go_simp
   go_wp2_with fail
   clear pgc pgd pge fgc fgd fge lgc lgd lge
   obtain⟨X1,hW2,bgc,hkW2⟩:=st4 (x:=.bool da) (y:=.string db) (z:=.bool false) (u:=.string dc) (Bgc.out:(w1).heap[gc]? = _)
   rw [← hW2]
   clear Bgc
   have Bgc:=jX bgc
   clear hW2 bgc
   have B2ga:=jX (hkW2.heap Bga.out (by simp;omega))
   clear Bga
   have Bga:=B2ga
   clear B2ga
   have B2gb:=jX (hkW2.heap Bgb.out (by simp;omega))
   clear Bgb
   have Bgb:=B2gb
   clear B2gb
   have B2gd:=jX (hkW2.heap Bgd.out (by simp;omega))
   clear Bgd
   have Bgd:=B2gd
   clear B2gd
   have B2ge:=jX (hkW2.heap Bge.out (by simp;omega))
   clear Bge
   have Bge:=B2ge
   clear B2ge
   have HkW2:=jX (HkW.out.trans hkW2 (by simp;omega))
   clear HkW hkW2
   have HkW:=HkW2
   clear HkW2
   obtain⟨X2,hW2,bgd,hkW2⟩:=st4 (x:=.bool ua) (y:=.string ub) (z:=.bool false) (u:=.string uc) (Bgd.out:(X1).heap[gd]? = _)
   rw [← hW2]
   clear Bgd
   have Bgd:=jX bgd
   clear hW2 bgd
   have B2ga:=jX (hkW2.heap Bga.out (by simp;omega))
   clear Bga
   have Bga:=B2ga
   clear B2ga
   have B2gb:=jX (hkW2.heap Bgb.out (by simp;omega))
   clear Bgb
   have Bgb:=B2gb
   clear B2gb
   have B2gc:=jX (hkW2.heap Bgc.out (by simp;omega))
   clear Bgc
   have Bgc:=B2gc
   clear B2gc
   have B2ge:=jX (hkW2.heap Bge.out (by simp;omega))
   clear Bge
   have Bge:=B2ge
   clear B2ge
   have HkW2:=jX (HkW.out.trans hkW2 (by simp;omega))
   clear HkW hkW2
   have HkW:=HkW2
   clear HkW2
   obtain⟨W2,hW2,bge,hkW2⟩:=st4 (x:=.bool ta) (y:=.string tb) (z:=.bool false) (u:=.string tc) (Bge.out:(X2).heap[ge]? = _)
   rw [← hW2]
   clear Bge
   have Bge:=jX bge
   clear hW2 bge
   have B2ga:=jX (hkW2.heap Bga.out (by simp;omega))
   clear Bga
   have Bga:=B2ga
   clear B2ga
   have B2gb:=jX (hkW2.heap Bgb.out (by simp;omega))
   clear Bgb
   have Bgb:=B2gb
   clear B2gb
   have B2gc:=jX (hkW2.heap Bgc.out (by simp;omega))
   clear Bgc
   have Bgc:=B2gc
   clear B2gc
   have B2gd:=jX (hkW2.heap Bgd.out (by simp;omega))
   clear Bgd
   have Bgd:=B2gd
   clear B2gd
   have HkW2:=jX (HkW.out.trans hkW2 (by simp;omega))
   clear HkW hkW2
   have HkW:=HkW2
   clear HkW2
   have kga:=kw_cells Bga.out
   have kgb:=kw_cells Bgb.out
   have kgc:=kw_cells Bgc.out
   have kgd:=kw_cells Bgd.out
   have kge:=kw_cells Bge.out
   have Q1:Hid (∀ m:KW W2,Calls Tryz.prog 119 #[.agg #[.bool da,.string db,.bool false,.string dc],.agg #[.bool ua,.string ub,.bool false,.string uc],.agg #[.bool xd,.string xe,.bool false,.string xf]] (Wk W2 m) fun e w'=>e = .returned (.int .i64 ma)∧∃ m,w'=Wk W2 m):=fun m=>qk m (Hsg.out _)
   have Q2:Hid (∀ m:KW W2,Calls Tryz.prog 85 #[.agg #[.bool ta,.string tb,.bool false,.string tc]] (Wk W2 m) fun e w'=>e = .returned (.int .i64 mb)∧∃ m,w'=Wk W2 m):=fun m=>qk m (Hst.out _)
   have Q3:Hid (∀ m:KW W2,Calls Tryz.prog 85 #[.agg #[.bool yd,.string ye,.bool false,.string yf]] (Wk W2 m) fun e w'=>e = .returned (.int .i64 mr)∧∃ m,w'=Wk W2 m):=fun m=>qk m (Hsy.out _)
   clear Hsg Hst Hsy
   refine wp_region_keep (by kernel_rfl) (by kernel_rfl) ?_
   repeat (first
    | go_big_quiet_skip
    | (go_big_quiet_want;go_big_quiet_op;first|go_big_quiet_on|go_big_quiet_call (first
     | (go_at_call 119;with_reducible exact (Q1).out _)|(go_at_call 85;with_reducible exact (Q2).out _)|(go_at_call 85;with_reducible exact (Q3).out _))))
   refine wpQuiet_nil ?_
   rintro w3 ⟨⟨_,hk_w3⟩,rfl⟩
   clear kga kgb kgc kgd kge Q1 Q2 Q3
   have Hk:=jX (HkW.out.trans0 hk_w3)
   clear hk_w3
   go_wp2_with fail
   go_ret
   exact ⟨rfl,Hk.out⟩
theorem cmp_high (xa xd xg ya yd yg da ua va ta:Bool) (xb xc xe xf yb yc ye yf db dc ub uc vb vc tb tc:ByteArray) (qa ra sa twa pa oa:Bool) (qb qc rb rc sb sc twb twc pb pc ob oc:ByteArray) (ma mb mr n c k:Int) (hn:mb*mr=n) (hm : -1≤ma∧ma≤1) (hn1 : -1≤n∧n≤1) (h0:n≠0) (h1:ma≠n) (h2:ma≠0) (hk:ma*c=k) (hk1 : -1≤k∧k≤1)
  (Hsub:Hid (∀ w,Calls Tryz.prog 116 #[.agg #[.bool xa,.string xb,.bool false,.string xc],.agg #[.bool ya,.string yb,.bool false,.string yc]] w fun e w'=>e = .returned (.agg #[.bool da,.string db,.bool false,.string dc])∧Keep [] w w'))
  (Hfx:Hid (∀ w,Calls Tryz.prog 117 #[.agg #[.bool xa,.string xb,.bool false,.string xc,.bool xd,.string xe,.bool false,.string xf,.bool xg]] w fun e w'=>e = .returned (.agg #[.bool ua,.string ub,.bool false,.string uc])∧Keep [] w w'))
  (Hfy:Hid (∀ w,Calls Tryz.prog 117 #[.agg #[.bool ya,.string yb,.bool false,.string yc,.bool yd,.string ye,.bool false,.string yf,.bool yg]] w fun e w'=>e = .returned (.agg #[.bool va,.string vb,.bool false,.string vc])∧Keep [] w w'))
  (Hng:Hid (∀ w,Calls Tryz.prog 118 #[.agg #[.bool va,.string vb,.bool false,.string vc]] w fun e w'=>e = .returned (.agg #[.bool ta,.string tb,.bool false,.string tc])∧Keep [] w w'))
  (Hsg:Hid (∀ w,Calls Tryz.prog 119 #[.agg #[.bool da,.string db,.bool false,.string dc],.agg #[.bool ua,.string ub,.bool false,.string uc],.agg #[.bool xd,.string xe,.bool false,.string xf]] w fun e w'=>e = .returned (.int .i64 ma)∧Keep [] w w'))
  (Hst:Hid (∀ w,Calls Tryz.prog 85 #[.agg #[.bool ta,.string tb,.bool false,.string tc]] w fun e w'=>e = .returned (.int .i64 mb)∧Keep [] w w'))
  (Hsy:Hid (∀ w,Calls Tryz.prog 85 #[.agg #[.bool yd,.string ye,.bool false,.string yf]] w fun e w'=>e = .returned (.int .i64 mr)∧Keep [] w w'))
  (Hm1:Hid (∀ w,Calls Tryz.prog 121 #[.agg #[.bool da,.string db,.bool false,.string dc],.agg #[.bool da,.string db,.bool false,.string dc]] w fun e w'=>e = .returned (.agg #[.bool qa,.string qb,.bool false,.string qc])∧Keep [] w w'))
  (Ha1:Hid (∀ w,Calls Tryz.prog 120 #[.agg #[.bool qa,.string qb,.bool false,.string qc],.agg #[.bool xd,.string xe,.bool false,.string xf]] w fun e w'=>e = .returned (.agg #[.bool ra,.string rb,.bool false,.string rc])∧Keep [] w w'))
  (Hs1:Hid (∀ w,Calls Tryz.prog 116 #[.agg #[.bool ra,.string rb,.bool false,.string rc],.agg #[.bool yd,.string ye,.bool false,.string yf]] w fun e w'=>e = .returned (.agg #[.bool sa,.string sb,.bool false,.string sc])∧Keep [] w w'))
  (Htw:Hid (∀ w,Calls Tryz.prog 122 #[.int .i64 2] w fun e w'=>e = .returned (.agg #[.bool twa,.string twb,.bool false,.string twc])∧Keep [] w w'))
  (Hm2:Hid (∀ w,Calls Tryz.prog 121 #[.agg #[.bool da,.string db,.bool false,.string dc],.agg #[.bool ua,.string ub,.bool false,.string uc]] w fun e w'=>e = .returned (.agg #[.bool pa,.string pb,.bool false,.string pc])∧Keep [] w w'))
  (Hm3:Hid (∀ w,Calls Tryz.prog 121 #[.agg #[.bool twa,.string twb,.bool false,.string twc],.agg #[.bool pa,.string pb,.bool false,.string pc]] w fun e w'=>e = .returned (.agg #[.bool oa,.string ob,.bool false,.string oc])∧Keep [] w w'))
  (Hsg2:Hid (∀ w,Calls Tryz.prog 119 #[.agg #[.bool sa,.string sb,.bool false,.string sc],.agg #[.bool oa,.string ob,.bool false,.string oc],.agg #[.bool xd,.string xe,.bool false,.string xf]] w fun e w'=>e = .returned (.int .i64 c)∧Keep [] w w'))
  (w:World) :
  Calls Tryz.prog 77 #[.agg #[.bool xa,.string xb,.bool false,.string xc,.bool xd,.string xe,.bool false,.string xf,.bool xg],.agg #[.bool ya,.string yb,.bool false,.string yc,.bool yd,.string ye,.bool false,.string yf,.bool yg]] w fun e w'=>e = .returned (.int .i64 k)∧Keep [] w w':=by
 have hw:IntKind.i64.wrap n=n:=by simp [IntKind.wrap,IntKind.bits,IntKind.signed];omega
 have hw2:IntKind.i64.wrap k=k:=by simp [IntKind.wrap,IntKind.bits,IntKind.signed];omega
 have t0:(n == 0)=false:=by simpa using h0
 have t1:(ma == n)=false:=by simpa using h1
 have t2:(ma == 0)=false:=by simpa using h2
 clear h0 h1 h2
 go_enter Tryz.func77,Tryz.ntmps77
 go_wp2_with fail
 obtain⟨W,ga,gb,hW,ega,egb,bga,bgb,hga,hgb,hgW,hkW⟩:=al2 w (.cells #[.bool xa,.string xb,.bool false,.string xc,.bool xd,.string xe,.bool false,.string xf,.bool xg] 36) (.cells #[.bool ya,.string yb,.bool false,.string yc,.bool yd,.string ye,.bool false,.string yf,.bool yg] 36)
 rw [← hW]
 try rw [egb]
 try rw [ega]
 have Bga:=jX bga
 have Bgb:=jX bgb
 have HkW:=jX hkW
 clear hW hkW ega egb bga bgb
 refine wp_region_new 13 [(5,34),(6,34),(7,34)] (fun _=>.cells #[.bool false,.string ⟨#[]⟩,.bool false,.string ⟨#[]⟩] 34) (by kernel_rfl) (by kernel_rfl) (by kernel_rfl) (fun t ht ev w o ho=>by simp at ht;subst ht;exact al_rat ev w o ho) ?_
 intro U hU
 have kga:=kw_cells (hU.heap Bga.out (by simp))
 have kgb:=kw_cells (hU.heap Bgb.out (by simp))
 have Q1:Hid (∀ m:KW U,Calls Tryz.prog 116 #[.agg #[.bool xa,.string xb,.bool false,.string xc],.agg #[.bool ya,.string yb,.bool false,.string yc]] (Wk U m) fun e w'=>e = .returned (.agg #[.bool da,.string db,.bool false,.string dc])∧∃ m,w'=Wk U m):=fun m=>qk m (Hsub.out _)
 have Q2:Hid (∀ m:KW U,Calls Tryz.prog 117 #[.agg #[.bool xa,.string xb,.bool false,.string xc,.bool xd,.string xe,.bool false,.string xf,.bool xg]] (Wk U m) fun e w'=>e = .returned (.agg #[.bool ua,.string ub,.bool false,.string uc])∧∃ m,w'=Wk U m):=fun m=>qk m (Hfx.out _)
 have Q3:Hid (∀ m:KW U,Calls Tryz.prog 117 #[.agg #[.bool ya,.string yb,.bool false,.string yc,.bool yd,.string ye,.bool false,.string yf,.bool yg]] (Wk U m) fun e w'=>e = .returned (.agg #[.bool va,.string vb,.bool false,.string vc])∧∃ m,w'=Wk U m):=fun m=>qk m (Hfy.out _)
 have Q4:Hid (∀ m:KW U,Calls Tryz.prog 118 #[.agg #[.bool va,.string vb,.bool false,.string vc]] (Wk U m) fun e w'=>e = .returned (.agg #[.bool ta,.string tb,.bool false,.string tc])∧∃ m,w'=Wk U m):=fun m=>qk m (Hng.out _)
 clear Hsub Hfx Hfy Hng
 simp only [List.map_cons,List.map_nil,unal,isAl,if_true,if_false,Bool.false_eq_true,List.take_succ_cons,List.take_zero]
 repeat (first
  | go_big_quiet_skip
  | (go_big_quiet_want;go_big_quiet_op;first|go_big_quiet_on|go_big_quiet_call (first
   | (go_at_call 116;with_reducible exact (Q1).out _)|(go_at_call 117;with_reducible exact (Q2).out _)|(go_at_call 117;with_reducible exact (Q3).out _)|(go_at_call 118;with_reducible exact (Q4).out _))))
 refine wpQuiet_nil ?_
 intro p hp1 hp2 w1 hk_w1 hz
 have bgc:=hz (5,34) (by simp)
 have bgd:=hz (6,34) (by simp)
 have bge:=hz (7,34) (by simp)
 have hgc:=hp1 5 (by simp)
 have hgd:=hp1 6 (by simp)
 have hge:=hp1 7 (by simp)
 have n1:p 5≠p 6:=fun h=>absurd (hp2 5 (by simp) 6 (by simp) h) (by decide)
 have n2:p 5≠p 7:=fun h=>absurd (hp2 5 (by simp) 7 (by simp) h) (by decide)
 have n3:p 6≠p 7:=fun h=>absurd (hp2 6 (by simp) 7 (by simp) h) (by decide)
 simp only [List.map_cons,List.map_nil,pl,List.drop_succ_cons,List.drop_zero]
 dsimp only at bgc bgd bge
 generalize p 5=gc at *
 generalize p 6=gd at *
 generalize p 7=ge at *
 have Bgc:=jX bgc
 have Bgd:=jX bgd
 have Bge:=jX bge
 clear kga kgb Q1 Q2 Q3 Q4 hz hp1 hp2 bgc bgd bge hU p U
 have B2ga:=jX (hk_w1.heap Bga.out (by simp))
 have B2gb:=jX (hk_w1.heap Bgb.out (by simp))
 have HkW2:=jX (HkW.out.trans0 hk_w1)
 clear HkW hk_w1 Bga Bgb
 have Bga:=B2ga
 have Bgb:=B2gb
 have HkW:=HkW2
 clear HkW2 B2ga B2gb
 have pgc:=cell_of Bgc.out
 have fgc:=frozen_of Bgc.out
 have lgc:=lt_of_heap Bgc.out
 have pgd:=cell_of Bgd.out
 have fgd:=frozen_of Bgd.out
 have lgd:=lt_of_heap Bgd.out
 have pge:=cell_of Bge.out
 have fge:=frozen_of Bge.out
 have lge:=lt_of_heap Bge.out
 have e1:gd≠gc:=Ne.symm n1
 have e2:ge≠gc:=Ne.symm n2
 have e3:ge≠gd:=Ne.symm n3
 go_simp
 go_wp2_with fail
 clear pgc pgd pge fgc fgd fge lgc lgd lge
 obtain⟨X1,hW2,bgc,hkW2⟩:=st4 (x:=.bool da) (y:=.string db) (z:=.bool false) (u:=.string dc) (Bgc.out:(w1).heap[gc]? = _)
 rw [← hW2]
 clear Bgc
 have Bgc:=jX bgc
 clear hW2 bgc
 have B2ga:=jX (hkW2.heap Bga.out (by simp;omega))
 clear Bga
 have Bga:=B2ga
 clear B2ga
 have B2gb:=jX (hkW2.heap Bgb.out (by simp;omega))
 clear Bgb
 have Bgb:=B2gb
 clear B2gb
 have B2gd:=jX (hkW2.heap Bgd.out (by simp;omega))
 clear Bgd
 have Bgd:=B2gd
 clear B2gd
 have B2ge:=jX (hkW2.heap Bge.out (by simp;omega))
 clear Bge
 have Bge:=B2ge
 clear B2ge
 have HkW2:=jX (HkW.out.trans hkW2 (by simp;omega))
 clear HkW hkW2
 have HkW:=HkW2
 clear HkW2
 obtain⟨X2,hW2,bgd,hkW2⟩:=st4 (x:=.bool ua) (y:=.string ub) (z:=.bool false) (u:=.string uc) (Bgd.out:(X1).heap[gd]? = _)
 rw [← hW2]
 clear Bgd
 have Bgd:=jX bgd
 clear hW2 bgd
 have B2ga:=jX (hkW2.heap Bga.out (by simp;omega))
 clear Bga
 have Bga:=B2ga
 clear B2ga
 have B2gb:=jX (hkW2.heap Bgb.out (by simp;omega))
 clear Bgb
 have Bgb:=B2gb
 clear B2gb
 have B2gc:=jX (hkW2.heap Bgc.out (by simp;omega))
 clear Bgc
 have Bgc:=B2gc
 clear B2gc
 have B2ge:=jX (hkW2.heap Bge.out (by simp;omega))
 clear Bge
 have Bge:=B2ge
 clear B2ge
 have HkW2:=jX (HkW.out.trans hkW2 (by simp;omega))
 clear HkW hkW2
 have HkW:=HkW2
 clear HkW2
 obtain⟨W2,hW2,bge,hkW2⟩:=st4 (x:=.bool ta) (y:=.string tb) (z:=.bool false) (u:=.string tc) (Bge.out:(X2).heap[ge]? = _)
 rw [← hW2]
 clear Bge
 have Bge:=jX bge
 clear hW2 bge
 have B2ga:=jX (hkW2.heap Bga.out (by simp;omega))
 clear Bga
 have Bga:=B2ga
 clear B2ga
 have B2gb:=jX (hkW2.heap Bgb.out (by simp;omega))
 clear Bgb
 have Bgb:=B2gb
 clear B2gb
 have B2gc:=jX (hkW2.heap Bgc.out (by simp;omega))
 clear Bgc
 have Bgc:=B2gc
 clear B2gc
 have B2gd:=jX (hkW2.heap Bgd.out (by simp;omega))
 clear Bgd
 have Bgd:=B2gd
 clear B2gd
 have HkW2:=jX (HkW.out.trans hkW2 (by simp;omega))
 clear HkW hkW2
 have HkW:=HkW2
 clear HkW2
 have kga:=kw_cells Bga.out
 have kgb:=kw_cells Bgb.out
 have kgc:=kw_cells Bgc.out
 have kgd:=kw_cells Bgd.out
 have kge:=kw_cells Bge.out
 have Q1:Hid (∀ m:KW W2,Calls Tryz.prog 119 #[.agg #[.bool da,.string db,.bool false,.string dc],.agg #[.bool ua,.string ub,.bool false,.string uc],.agg #[.bool xd,.string xe,.bool false,.string xf]] (Wk W2 m) fun e w'=>e = .returned (.int .i64 ma)∧∃ m,w'=Wk W2 m):=fun m=>qk m (Hsg.out _)
 have Q2:Hid (∀ m:KW W2,Calls Tryz.prog 85 #[.agg #[.bool ta,.string tb,.bool false,.string tc]] (Wk W2 m) fun e w'=>e = .returned (.int .i64 mb)∧∃ m,w'=Wk W2 m):=fun m=>qk m (Hst.out _)
 have Q3:Hid (∀ m:KW W2,Calls Tryz.prog 85 #[.agg #[.bool yd,.string ye,.bool false,.string yf]] (Wk W2 m) fun e w'=>e = .returned (.int .i64 mr)∧∃ m,w'=Wk W2 m):=fun m=>qk m (Hsy.out _)
 clear Hsg Hst Hsy
 refine wp_region_keep (by kernel_rfl) (by kernel_rfl) ?_
 repeat (first
  | go_big_quiet_skip
  | (go_big_quiet_want;go_big_quiet_op;first|go_big_quiet_on|go_big_quiet_call (first
   | (go_at_call 119;with_reducible exact (Q1).out _)|(go_at_call 85;with_reducible exact (Q2).out _)|(go_at_call 85;with_reducible exact (Q3).out _))))
 refine wpQuiet_nil ?_
 rintro w3 ⟨⟨_,hk_w3⟩,rfl⟩
 clear kga kgb kgc kgd kge Q1 Q2 Q3
 have B2ga:=jX (hk_w3.heap Bga.out (by simp))
 have B2gb:=jX (hk_w3.heap Bgb.out (by simp))
 have B2gc:=jX (hk_w3.heap Bgc.out (by simp))
 have B2gd:=jX (hk_w3.heap Bgd.out (by simp))
 have B2ge:=jX (hk_w3.heap Bge.out (by simp))
 have HkW2:=jX (HkW.out.trans0 hk_w3)
 clear HkW hk_w3 Bga Bgb Bgc Bgd Bge
 have Bga:=B2ga
 have Bgb:=B2gb
 have Bgc:=B2gc
 have Bgd:=B2gd
 have Bge:=B2ge
 have HkW:=HkW2
 clear HkW2 B2ga B2gb B2gc B2gd B2ge
 have hgW3:ge<w3.heap.size∧gd<w3.heap.size∧gc<w3.heap.size:=⟨lt_of_heap Bge.out,lt_of_heap Bgd.out,lt_of_heap Bgc.out⟩
 have hgW4:gb<w3.heap.size:=lt_of_heap Bgb.out
 go_wp2_with fail
 refine wp_region_new 10 [(10,34)] (fun _=>.cells #[.bool false,.string ⟨#[]⟩,.bool false,.string ⟨#[]⟩] 34) (by kernel_rfl) (by kernel_rfl) (by kernel_rfl) (fun t ht ev w o ho=>by simp at ht;subst ht;exact al_rat ev w o ho) ?_
 intro U hU
 have kga:=kw_cells (hU.heap Bga.out (by simp))
 have kgb:=kw_cells (hU.heap Bgb.out (by simp))
 have kgc:=kw_cells (hU.heap Bgc.out (by simp))
 have Q1:Hid (∀ m:KW U,Calls Tryz.prog 121 #[.agg #[.bool da,.string db,.bool false,.string dc],.agg #[.bool da,.string db,.bool false,.string dc]] (Wk U m) fun e w'=>e = .returned (.agg #[.bool qa,.string qb,.bool false,.string qc])∧∃ m,w'=Wk U m):=fun m=>qk m (Hm1.out _)
 have Q2:Hid (∀ m:KW U,Calls Tryz.prog 120 #[.agg #[.bool qa,.string qb,.bool false,.string qc],.agg #[.bool xd,.string xe,.bool false,.string xf]] (Wk U m) fun e w'=>e = .returned (.agg #[.bool ra,.string rb,.bool false,.string rc])∧∃ m,w'=Wk U m):=fun m=>qk m (Ha1.out _)
 have Q3:Hid (∀ m:KW U,Calls Tryz.prog 116 #[.agg #[.bool ra,.string rb,.bool false,.string rc],.agg #[.bool yd,.string ye,.bool false,.string yf]] (Wk U m) fun e w'=>e = .returned (.agg #[.bool sa,.string sb,.bool false,.string sc])∧∃ m,w'=Wk U m):=fun m=>qk m (Hs1.out _)
 clear Hm1 Ha1 Hs1
 simp only [List.map_cons,List.map_nil,unal,isAl,if_true,if_false,Bool.false_eq_true,List.take_succ_cons,List.take_zero]
 repeat (first
  | go_big_quiet_skip
  | (go_big_quiet_want;go_big_quiet_op;first|go_big_quiet_on|go_big_quiet_call (first
   | (go_at_call 121;with_reducible exact (Q1).out _)|(go_at_call 120;with_reducible exact (Q2).out _)|(go_at_call 116;with_reducible exact (Q3).out _))))
 refine wpQuiet_nil ?_
 intro p hp1 hp2 w4 hk_w4 hz
 have bgf:=hz (10,34) (by simp)
 have hgf:=hp1 10 (by simp)
 simp only [List.map_cons,List.map_nil,pl,List.drop_succ_cons,List.drop_zero]
 dsimp only at bgf
 generalize p 10=gf at *
 have Bgf:=jX bgf
 clear kga kgb kgc Q1 Q2 Q3 hz hp1 hp2 bgf hU p U
 have B2ga:=jX (hk_w4.heap Bga.out (by simp))
 have B2gb:=jX (hk_w4.heap Bgb.out (by simp))
 have B2gc:=jX (hk_w4.heap Bgc.out (by simp))
 have B2gd:=jX (hk_w4.heap Bgd.out (by simp))
 have B2ge:=jX (hk_w4.heap Bge.out (by simp))
 have HkW2:=jX (HkW.out.trans0 hk_w4)
 clear HkW hk_w4 Bga Bgb Bgc Bgd Bge
 have Bga:=B2ga
 have Bgb:=B2gb
 have Bgc:=B2gc
 have Bgd:=B2gd
 have Bge:=B2ge
 have HkW:=HkW2
 clear HkW2 B2ga B2gb B2gc B2gd B2ge
 have pgf:=cell_of Bgf.out
 have fgf:=frozen_of Bgf.out
 have lgf:=lt_of_heap Bgf.out
 go_simp
 go_wp2_with fail
 clear pgf fgf lgf
 obtain⟨W5,hW2,bgf,hkW2⟩:=st4 (x:=.bool sa) (y:=.string sb) (z:=.bool false) (u:=.string sc) (Bgf.out:(w4).heap[gf]? = _)
 rw [← hW2]
 clear Bgf
 have Bgf:=jX bgf
 clear hW2 bgf
 have B2ga:=jX (hkW2.heap Bga.out (by simp;omega))
 clear Bga
 have Bga:=B2ga
 clear B2ga
 have B2gb:=jX (hkW2.heap Bgb.out (by simp;omega))
 clear Bgb
 have Bgb:=B2gb
 clear B2gb
 have B2gc:=jX (hkW2.heap Bgc.out (by simp;omega))
 clear Bgc
 have Bgc:=B2gc
 clear B2gc
 have B2gd:=jX (hkW2.heap Bgd.out (by simp;omega))
 clear Bgd
 have Bgd:=B2gd
 clear B2gd
 have B2ge:=jX (hkW2.heap Bge.out (by simp;omega))
 clear Bge
 have Bge:=B2ge
 clear B2ge
 have HkW2:=jX (HkW.out.trans hkW2 (by simp;omega))
 clear HkW hkW2
 have HkW:=HkW2
 clear HkW2
 have kga:=kw_cells Bga.out
 have kgb:=kw_cells Bgb.out
 have kgc:=kw_cells Bgc.out
 have kgd:=kw_cells Bgd.out
 have kge:=kw_cells Bge.out
 have kgf:=kw_cells Bgf.out
 have Q1:Hid (∀ m:KW W5,Calls Tryz.prog 122 #[.int .i64 2] (Wk W5 m) fun e w'=>e = .returned (.agg #[.bool twa,.string twb,.bool false,.string twc])∧∃ m,w'=Wk W5 m):=fun m=>qk m (Htw.out _)
 have Q2:Hid (∀ m:KW W5,Calls Tryz.prog 121 #[.agg #[.bool da,.string db,.bool false,.string dc],.agg #[.bool ua,.string ub,.bool false,.string uc]] (Wk W5 m) fun e w'=>e = .returned (.agg #[.bool pa,.string pb,.bool false,.string pc])∧∃ m,w'=Wk W5 m):=fun m=>qk m (Hm2.out _)
 have Q3:Hid (∀ m:KW W5,Calls Tryz.prog 121 #[.agg #[.bool twa,.string twb,.bool false,.string twc],.agg #[.bool pa,.string pb,.bool false,.string pc]] (Wk W5 m) fun e w'=>e = .returned (.agg #[.bool oa,.string ob,.bool false,.string oc])∧∃ m,w'=Wk W5 m):=fun m=>qk m (Hm3.out _)
 have Q4:Hid (∀ m:KW W5,Calls Tryz.prog 119 #[.agg #[.bool sa,.string sb,.bool false,.string sc],.agg #[.bool oa,.string ob,.bool false,.string oc],.agg #[.bool xd,.string xe,.bool false,.string xf]] (Wk W5 m) fun e w'=>e = .returned (.int .i64 c)∧∃ m,w'=Wk W5 m):=fun m=>qk m (Hsg2.out _)
 clear Htw Hm2 Hm3 Hsg2
 refine wp_region_keep (by kernel_rfl) (by kernel_rfl) ?_
 repeat (first
  | go_big_quiet_skip
  | (go_big_quiet_want;go_big_quiet_op;first|go_big_quiet_on|go_big_quiet_call (first
   | (go_at_call 122;with_reducible exact (Q1).out _)|(go_at_call 121;with_reducible exact (Q2).out _)|(go_at_call 121;with_reducible exact (Q3).out _)|(go_at_call 119;with_reducible exact (Q4).out _))))
 refine wpQuiet_nil ?_
 rintro w6 ⟨⟨_,hk_w6⟩,rfl⟩
 have Hk:=jX (HkW.out.trans0 hk_w6)
 clear hk_w6 kga kgb kgc kgd kge kgf Q1 Q2 Q3 Q4
 go_wp2_with fail
 go_ret
 exact ⟨rfl,Hk.out⟩
theorem sg1_range (a b r:Rat) : -1≤sg1 a b r∧sg1 a b r≤1:=by
 have h1:=sgn_range a
 have h2:=sgn_mul_range b r
 have h3:=sgn_mul_range a (a*a-b*b*r)
 unfold sg1
 split
 ·exact h1
 ·split
  ·exact h2
  ·exact h3
theorem u_fit (x:Qn):FitQ 100 x.u:=by
 rcases x.u_or with h|h<;>rw [h]<;>(refine ⟨?_,?_⟩<;>rw [Fit_iff]<;>decide)
theorem RCompare_c (x y:Qn) (hx:FitR 10000000 x) (hy:FitR 10000000 y) (w:World) :
  Calls Tryz.prog 77 #[qv x,qv y] w fun e w'=>e = .returned (.int .i64 (cmpQ x y))∧Keep [] w w':=by
 have hd:=FitQ.sub hx.1 hy.1
 have hu:=u_fit x
 have f1:=QSub_c x.p y.p (hx.1.mono (by decide)) (hy.1.mono (by decide))
 have f5:=sign_c (x.p-y.p) x.u x.r (hd.mono (by decide)) (hu.mono (by decide)) (hx.2.mono (by decide))
 have hma:=sg1_range (x.p-y.p) x.u x.r
 have hmn:=sgn_mul_range (-y.u) y.r
 unfold cmpQ
 by_cases hc:sgn (-y.u)*sgn y.r=0∨sg1 (x.p-y.p) x.u x.r=sgn (-y.u)*sgn y.r∨sg1 (x.p-y.p) x.u x.r=0
 ·have:=cmp_low _ _ _ _ _ _ _ _ _ _ _ _ _ _ _ _ _ _ _ _ _ _ _ _ _ _ (sg1 (x.p-y.p) x.u x.r) (sgn (-y.u)) (sgn y.r) _ rfl hma hmn hc f1 (factor_c x) (factor_c y) (QNeg_c y.u) f5 (QSign_c (-y.u)) (QSign_c y.r) w
  refine this.mono fun e w' h=>⟨?_,h.2⟩
  rw [h.1]
  by_cases h1:sgn (-y.u)*sgn y.r=0∨sg1 (x.p-y.p) x.u x.r=sgn (-y.u)*sgn y.r
  ·rw [if_pos h1,if_pos h1]
  ·rw [if_neg h1,if_neg h1,if_pos (by rcases hc with h|h|h;exact absurd (.inl h) h1;exact absurd (.inr h) h1;exact h)]
 ·have h0:sgn (-y.u)*sgn y.r≠0:=fun h=>hc (.inl h)
  have h1:sg1 (x.p-y.p) x.u x.r≠sgn (-y.u)*sgn y.r:=fun h=>hc (.inr (.inl h))
  have h2:sg1 (x.p-y.p) x.u x.r≠0:=fun h=>hc (.inr (.inr h))
  rw [if_neg (by rintro (h|h);exact h0 h;exact h1 h),if_neg h2]
  have hdd:=hd.mul hd
  have hsq:=(hdd.add hx.2).sub hy.2
  have h2f:FitQ 100 (2:Rat):=by refine ⟨?_,?_⟩<;>rw [Fit_iff]<;>decide
  have hdu:=hd.mul hu
  have h2du:=h2f.mul hdu
  have hc1:=sg1_range ((x.p-y.p)*(x.p-y.p)+x.r-y.r) (2*((x.p-y.p)*x.u)) x.r
  refine cmp_high _ _ _ _ _ _ _ _ _ _ _ _ _ _ _ _ _ _ _ _ _ _ _ _ _ _ _ _ _ _ _ _ _ _ _ _ _ _ _ _ _ _ _ _ (sg1 (x.p-y.p) x.u x.r) (sgn (-y.u)) (sgn y.r) _ (sg1 ((x.p-y.p)*(x.p-y.p)+x.r-y.r) (2*((x.p-y.p)*x.u)) x.r) _ rfl hma hmn h0 h1 h2 rfl ?_ f1 (factor_c x) (factor_c y) (QNeg_c y.u) f5 (QSign_c (-y.u)) (QSign_c y.r)
   (QMul_c _ _ (hd.mono (by decide)) (hd.mono (by decide))) (QAdd_c _ _ (hdd.mono (by decide)) (hx.2.mono (by decide))) (QSub_c _ _ ((hdd.add hx.2).mono (by decide)) (hy.2.mono (by decide))) (QFromInt_c 2 (by decide) (by decide))
   (QMul_c _ _ (hd.mono (by decide)) (hu.mono (by decide))) (QMul_c _ _ (h2f.mono (by decide)) (hdu.mono (by decide))) (sign_c _ _ _ (hsq.mono (by decide)) (h2du.mono (by decide)) (hx.2.mono (by decide))) w
  ·rcases hc1 with ⟨g1,g2⟩
   rcases hma with ⟨g3,g4⟩
   have ha:sg1 (x.p-y.p) x.u x.r = -1∨sg1 (x.p-y.p) x.u x.r=1:=by omega
   rcases ha with ha|ha<;>rw [ha]<;>omega
end Go.Proofs.YtejegogbhpmgfaaGreatDoor
