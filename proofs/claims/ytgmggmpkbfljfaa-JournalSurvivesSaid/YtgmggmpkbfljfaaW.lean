/- The contracts of the device's methods that read and write its content. -/
import Derived.Test.YtgmggmpkbfljfaaV
set_option linter.unusedVariables false
set_option linter.unusedSimpArgs false
set_option maxRecDepth 100000
namespace Go.Proofs.Ytgmggmpkbfljfaa
open Go.RowKit
def vKeep (v : Vol) (s : Int) (d : ByteArray) : Vol := if d = fillS 0 then { v with dur := delI v.dur s } else { v with dur := setI v.dur s d }
theorem zeroE (w : World) : (zeroValue 9).run Try.prog w = .ok (.string ⟨#[]⟩) w := by kernel_rfl
theorem VolAt.putMap {w : World} {b mb : Nat} {pv : Value} {v : Vol} {o : Obj} {m : IS} (h : VolAt w b mb pv v) (hm : MapAt (w.putObj mb o) mb m) : VolAt (w.putObj mb o) b mb pv { v with dur := m } := by
  refine ⟨?_, hm, ?_⟩
  · rw [World.putObj_heap_other h.mb_ne.symm]; exact h.blk
  · refine ⟨h.pend.1, ?_⟩
    rcases h.pend.2 with hn | ⟨g, cap, cur, hv, hb, hg, rest⟩
    · exact .inl hn
    · exact .inr ⟨g, cap, cur, hv, hb, by rw [World.putObj_heap_other (h.pv_ne g (by rw [hv]; rfl)).2]; exact hg, rest⟩
theorem Keep.putObj (F : List Nat) (w : World) (r : Nat) (o : Obj) (h : r ∈ F) : Keep F w (w.putObj r o) :=
  ⟨rfl, rfl, rfl, by simp [World.putObj], fun k hk hn => World.putObj_heap_other (fun e => hn (e ▸ h))⟩
theorem str_eq (a b : ByteArray) : (a.toList == b.toList) = decide (a = b) := by
  rw [Lib.toList_data, Lib.toList_data, Bool.eq_iff_iff, beq_iff_eq, decide_eq_true_iff]
  exact ⟨fun h => ByteArray.ext (Array.toList_inj.1 h), fun h => by rw [h]⟩
theorem str_yes {a b : ByteArray} (h : a = b) : (a.toList == b.toList) = true := by rw [str_eq]; simpa using h
theorem str_no {a b : ByteArray} (h : ¬ a = b) : (a.toList == b.toList) = false := by rw [str_eq]; simpa using h
set_option maxHeartbeats 1000000 in
theorem keep_c (w : World) (b mb : Nat) (pv : Value) (v : Vol) (s : Int) (d : ByteArray) (h : VolAt w b mb pv v) :
    Calls Try.prog 61 #[.pointer (some ⟨b, 0, none⟩), .int .i64 s, .string d] w fun e w' => e = .returned (.tuple #[]) ∧ VolAt w' b mb pv (vKeep v s d) ∧ Keep [mb] w w' := by
  unfold vKeep
  by_cases hd : d = fillS 0
  all_goals
    first | have ht := str_yes hd | have ht := str_no hd
    have Hd := Lib.hid hd
    clear hd
    go_enter Try.func61, Try.ntmps61
    go_wp2_with fail
    refine (zero_c _).mono ?_
    rintro e w1 ⟨rfl, hw1⟩
    have hk1 : Keep [mb] w w1 := by rw [hw1]; exact Keep.alloc _ _ _
    have h1 : VolAt w1 b mb pv v := by rw [hw1]; exact h.keep (Keep.alloc [] _ _) (by simp) (by simp) (by simp)
    clear h hw1
    have hc := cell_of h1.blk
    simp only [vcells] at hc
  · obtain ⟨o, hrun, hm⟩ := run_delete_is (P := Try.prog) Try.underlying85 Try.underlying3 h1.map s 0 3
    have H1 := Lib.hid h1
    have HM := Lib.hid hm
    clear h1 hm
    go_wp2_with fail
    go_returns
    exact ⟨rfl, H1.out.putMap HM.out, hk1.trans (Keep.putObj [mb] _ _ _ (by simp)) (fun x hx => .inl hx)⟩
  · obtain ⟨o, hrun, hm⟩ := run_mapUpdate_is (P := Try.prog) Try.underlying85 Try.underlying3 h1.map s d
    have H1 := Lib.hid h1
    have HM := Lib.hid hm
    clear h1 hm
    go_wp2_with fail
    go_returns
    exact ⟨rfl, H1.out.putMap HM.out, hk1.trans (Keep.putObj [mb] _ _ _ (by simp)) (fun x hx => .inl hx)⟩

def vDur (v : Vol) (s : Int) : ByteArray := (lookI v.dur s).getD (fillS 0)
set_option maxHeartbeats 1000000 in
theorem durable_c (w : World) (b mb : Nat) (pv : Value) (v : Vol) (s : Int) (h : VolAt w b mb pv v) (h0 : 0 ≤ s) (h1 : s < v.sectors) :
    Calls Try.prog 60 #[.pointer (some ⟨b, 0, none⟩), .int .i64 s] w fun e w' => e = .returned (.tuple #[.string (vDur v s), .int .i64 0]) ∧ Keep [] w w' := by
  have hlk := run_lookup_is (P := Try.prog) (E := 9) Try.underlying85 Try.underlying3 zeroE h.map s
  have hd1 : decide (s < 0) = false := by simp; omega
  unfold vDur
  have hc := cell_of h.blk
  have hf := frozen_of h.blk
  have H := Lib.hid h
  clear h
  obtain ⟨sectors, dur, pend, limited, down, left, writes, barriers⟩ := v
  simp only [vcells] at hc
  dsimp only at h1 hlk ⊢
  cases hl : lookI dur s
  all_goals
    rw [hl] at hlk
    clear hl
    simp only [Option.getD_some, Option.getD_none, Option.isSome_some, Option.isSome_none] at hlk
    go_enter Try.func60, Try.ntmps60
    go_wp2_with (go_at_call 74; refine (zero_c _).mono ?_; rintro e w1 ⟨rfl, rfl⟩)
    go_returns
  · exact ⟨rfl, Keep.alloc _ _ _⟩
  · exact ⟨rfl, Keep.refl _ _⟩
set_option maxHeartbeats 1000000 in
theorem durable_e (w : World) (b mb : Nat) (pv : Value) (v : Vol) (s : Int) (h : VolAt w b mb pv v) (h1 : s < 0 ∨ v.sectors ≤ s) :
    Calls Try.prog 60 #[.pointer (some ⟨b, 0, none⟩), .int .i64 s] w fun e w' => e = .returned (.tuple #[.string ⟨#[]⟩, .int .i64 2]) ∧ w = w' := by
  have hc := cell_of h.blk
  have hf := frozen_of h.blk
  have H := Lib.hid h
  clear h
  obtain ⟨sectors, dur, pend, limited, down, left, writes, barriers⟩ := v
  simp only [vcells] at hc
  by_cases h0 : s < 0
  · clear h1
    go_enter Try.func60, Try.ntmps60
    go_wp2
    go_returns
    exact ⟨rfl, rfl⟩
  · have hd1 : decide (s < 0) = false := by simpa using h0
    have h2 : sectors ≤ s := by rcases h1 with h1 | h1 <;> first | exact h1 | omega
    clear h1
    go_enter Try.func60, Try.ntmps60
    go_wp2
    go_returns
    exact ⟨rfl, rfl⟩

/-! ### Write -/
theorem infoW : (Try.prog.info? 105).map (fun i => (i.zero, i.size, i.bytes)) = some (some (.agg #[.int .i64 0, .string ⟨#[]⟩]), 2, 24) := by kernel_rfl
def vWrite (v : Vol) (s : Int) (d : ByteArray) : Int × Vol :=
  if v.down then (20, v) else if s < 0 ∨ v.sectors ≤ s then (2, v) else if d.size ≠ 128 then (28, v) else if 4096 ≤ v.pend.length then (19, v) else
  let v1 := { v with pend := v.pend ++ [(s, d)] }
  if (vOp v1).1 then (20, (vOp v1).2) else (0, { (vOp v1).2 with writes := wrap64 ((vOp v1).2.writes + 1) })
theorem pcells_length (p : IS) : (pcells p).length = p.length * 2 := by
  induction p with
  | nil => rfl
  | cons x p ih => simp [pcells] at *; omega
theorem pcells_snoc (p : IS) (s : Int) (d : ByteArray) : pcells p ++ [.int .i64 s, .string d] = pcells (p ++ [(s, d)]) := by simp [pcells]
/-- The device goes over to another state: what it owned may have been turned, what it owns besides is new. -/
def VolTo (w : World) (b mb : Nat) (pv : Value) (v' : Vol) (w' : World) : Prop :=
  ∃ pv', VolAt w' b mb pv' v' ∧ Keep (b :: mb :: pv.ownBlock.toList) w w' ∧ ∀ g, pv'.ownBlock = some g → some g = pv.ownBlock ∨ w.heap.size ≤ g
theorem VolAt.here {w : World} {b mb : Nat} {pv : Value} {v : Vol} (h : VolAt w b mb pv v) : VolTo w b mb pv v w := ⟨pv, h, Keep.refl _ _, fun g hg => .inl hg.symm⟩
theorem VolAt.step {w w' : World} {b mb : Nat} {pv : Value} {v : Vol} {F : List Nat} (h : VolAt w' b mb pv v) (hk : Keep F w w') (hF : ∀ x ∈ F, x = b ∨ x = mb) : VolTo w b mb pv v w' :=
  ⟨pv, h, hk.mono (fun x hx => by rcases hF x hx with h | h <;> simp [h]), fun g hg => .inl hg.symm⟩
/-- The new list of pending writes is stored. -/
theorem VolAt.setPend {w w1 : World} {b mb : Nat} {pv : Value} {v : Vol} {F : List Nat} {g n cap : Nat} {p : IS} (h : VolAt w b mb pv v) (hk : Keep F w w1) (hb : b ∉ F) (hmb : mb ∉ F)
    (ho : w1.ownsRow 0 105 2 (.slice (some ⟨g, 0, none⟩) n cap) n (pcells p)) (hn : n = p.length) (hgb : g ≠ b) :
    VolAt (w1.setCell ⟨b, 2, none⟩ (.slice (some ⟨g, 0, none⟩) n cap)) b mb (.slice (some ⟨g, 0, none⟩) n cap) { v with pend := p } := by
  subst hn
  refine ⟨?_, ?_, ?_⟩
  · rw [set_same (hk.heap h.blk hb)]; rfl
  · obtain ⟨es, clk, hm, he⟩ := h.map
    exact ⟨es, clk, by rw [set_other _ _ h.mb_ne]; exact hk.heap hm hmb, he⟩
  · refine ⟨ho.1, ?_⟩
    rcases ho.2 with hn | ⟨g', cap', cur, hv, hb', hg, rest⟩
    · exact .inl hn
    · injection hv with hv1 hv2 hv3
      injection hv1 with hv1
      injection hv1 with hv1
      refine .inr ⟨g', cap', cur, by rw [hv1, hv3], hb', by rw [set_other _ _ (by rw [← hv1]; exact hgb)]; exact hg, rest⟩

set_option maxHeartbeats 2000000 in
set_option maxRecDepth 100000 in
theorem write_ok (w : World) (b mb : Nat) (pv : Value) (v : Vol) (s : Int) (d : ByteArray) (h : VolAt w b mb pv v) (h1 : v.down = false) (h2 : 0 ≤ s) (h3 : s < v.sectors) (h4 : d.size = 128) (h5 : v.pend.length < 4096) :
    Calls Try.prog 64 #[.pointer (some ⟨b, 0, none⟩), .int .i64 s, .string d] w fun e w' => e = .returned (.int .i64 (vWrite v s d).1) ∧ VolTo w b mb pv (vWrite v s d).2 w' := by
  have hck := check_c w b mb pv v s h
  rw [show vCheck v s = 0 by unfold vCheck; rw [if_neg (by simp [h1]), if_neg (by omega)]] at hck
  have HV := Lib.hid (show vWrite v s d = if (vOp { v with pend := v.pend ++ [(s, d)] }).1 then (20, (vOp { v with pend := v.pend ++ [(s, d)] }).2) else (0, { (vOp { v with pend := v.pend ++ [(s, d)] }).2 with writes := wrap64 ((vOp { v with pend := v.pend ++ [(s, d)] }).2.writes + 1) }) by
    unfold vWrite; rw [if_neg (by simp [h1]), if_neg (by omega), if_neg (by omega), if_neg (by omega)])
  have hlen : ((d.size : Int) != 128) = false := by rw [h4]; rfl
  clear h1 h2 h3 h4
  have hc := cell_of h.blk
  have hf := frozen_of h.blk
  simp only [vcells] at hc
  obtain ⟨po, pl, pc, hpv, hpl⟩ : ∃ po pl pc, pv = .slice po pl pc ∧ pl = v.pend.length := by
    rcases h.pend.2 with ⟨hv, h0⟩ | ⟨g, cap, cur, hv, _⟩
    · exact ⟨_, _, _, hv, h0.symm⟩
    · exact ⟨_, _, cap, hv, rfl⟩
  obtain ⟨i0, hi, hz0, hz1, hz2⟩ := info_parts infoW
  have hpl4 : pl < 4096 := by omega
  have H := Lib.hid h
  have hown := h.pend
  have HL := Lib.hid hpl
  rw [← hpl] at hown
  rw [hpv] at hc hown H ⊢
  have hown' := Lib.hid hown
  have H5 := Lib.hid h5
  have Hck := Lib.hid hck
  have Hi := Lib.hid (And.intro hi (And.intro hz0 (And.intro hz1 hz2)))
  clear h hpv hown hpl h5 hck hi hz0 hz1 hz2
  go_enter Try.func64, Try.ntmps64
  go_wp2_with (first | (go_at_call 71; refine Hck.out.mono ?_; rintro e w' ⟨rfl, rfl⟩) | (at_builtin; refine wpList_append2 _ rfl _ _ 86 rfl 105 i0 _ 2 24 Try.underlying86 Hi.out.1 Hi.out.2.1 Hi.out.2.2.1 Hi.out.2.2.2 rfl (by decide) _ _ _ rfl (hown'.out.alloc _) ⟨w.heap.size, 0, none⟩ 1 1 [.int .i64 s, .string d] rfl rfl ?c1 ?c2 (by decide) ?c3 ?c4 ?_))
  case c1 =>
    intro j u hj
    match j, hj with
    | 0, hj => simp at hj; subst hj; simp [Addr.add, go_sem]
    | 1, hj => simp at hj; subst hj; simp [Addr.add, go_sem]
  case c2 => intro u hu; simp at hu; rcases hu with rfl | rfl <;> rfl
  case c3 => unfold maxLen; omega
  case c4 => omega
  intro g cap w1 ho hg hfr
  rw [pcells_snoc] at ho
  have hob : ∀ k, (Value.slice po pl pc).ownBlock = some k → k ≠ b ∧ k ≠ mb ∧ k < w.heap.size := fun k hk => ⟨(H.out.pv_ne k hk).1, (H.out.pv_ne k hk).2, (hown'.out.lt k hk).2⟩
  have hbl := lt_of_heap H.out.blk
  have hml : mb < w.heap.size := by obtain ⟨es, clk, hm, _⟩ := H.out.map; exact lt_of_heap hm
  have hk1 : Keep ((Value.slice po pl pc).ownBlock.toList) w w1 := (Keep.alloc _ _ _).trans (Keep.grown hg (fun k hk => by rw [hk]; simp)) (fun x hx => .inl hx)
  have hbF : b ∉ (Value.slice po pl pc).ownBlock.toList := fun hm => (hob b (by simpa using hm)).1 rfl
  have hmF : mb ∉ (Value.slice po pl pc).ownBlock.toList := fun hm => (hob mb (by simpa using hm)).2.1 rfl
  have hgb : g ≠ b := by
    rcases hfr with h | h
    · exact (hob g h.symm).1
    · omega
  have hv1 := H.out.setPend hk1 hbF hmF ho (by rw [HL.out]; simp) hgb
  have hblk := hk1.heap H.out.blk hbF
  have hc1 := cell_of hblk
  have hf1 := frozen_of hblk
  simp only [vcells] at hc1
  have Hv1 := Lib.hid hv1
  have Hk1 := Lib.hid hk1
  have Hbl := Lib.hid hbl
  have Hgb := Lib.hid hgb
  have Hob := Lib.hid hob
  have Hfr : Hid (some g = (Value.slice po pl pc).ownBlock ∨ w.heap.size ≤ g) := hfr.imp id (fun h => by omega)
  clear hblk hv1 hk1 hbl hml hbF hmF hob hg hfr ho hc hf hgb
  go_wp2_with fail
  refine (operate_c _ _ _ _ _ Hv1.out).mono ?_
  rintro e w2 ⟨rfl, hv2, hk2⟩
  generalize hgen : vOp { v with pend := v.pend ++ [(s, d)] } = r at hv2 HV ⊢
  obtain ⟨ob, v2⟩ := r
  dsimp only at hv2 ⊢
  have hsc := Keep.setCell (b :: (Value.slice po pl pc).ownBlock.toList) w1 b 2 (Value.slice (some ⟨g, 0, none⟩) (pl + 1) cap) (by simp)
  have Hk3 : Hid (Keep (b :: (Value.slice po pl pc).ownBlock.toList) w w2) :=
    ((Hk1.out.mono (G := b :: (Value.slice po pl pc).ownBlock.toList) (fun x hx => List.mem_cons_of_mem _ hx)).trans hsc (fun x hx => .inl hx)).trans hk2 (fun x hx => .inl (by simp at hx; simp [hx]))
  have hc2 := cell_of hv2.blk
  have hf2 := frozen_of hv2.blk
  simp only [vcells] at hc2
  have Hv2 := Lib.hid hv2
  clear hv2 hk2 hc1 hf1 hsc hgen
  have hmem : ∀ x ∈ b :: (Value.slice po pl pc).ownBlock.toList, x ∈ b :: mb :: (Value.slice po pl pc).ownBlock.toList := by
    intro x hx; rcases List.mem_cons.1 hx with rfl | hx
    · simp
    · exact List.mem_cons_of_mem _ (List.mem_cons_of_mem _ hx)
  have hfr' : ∀ g', (Value.slice (some ⟨g, 0, none⟩) (pl + 1) cap).ownBlock = some g' → some g' = (Value.slice po pl pc).ownBlock ∨ w.heap.size ≤ g' := by
    intro g' hg'; cases hg'; exact Hfr.out
  have Hmem := Lib.hid hmem
  have Hfr' := Lib.hid hfr'
  clear hmem hfr'
  cases ob
  · go_wp2_with fail
    go_returns
    rw [HV.out]
    exact ⟨rfl, _, Hv2.out.set _ _ rfl rfl rfl, ((Hk3.out.trans (Keep.setCell _ _ _ _ _ (by simp)) (fun x hx => .inl hx))).mono Hmem.out, Hfr'.out⟩
  · go_wp2_with fail
    go_returns
    rw [HV.out]
    exact ⟨rfl, _, Hv2.out, Hk3.out.mono Hmem.out, Hfr'.out⟩

set_option maxRecDepth 100000 in
theorem write_e (w : World) (b mb : Nat) (pv : Value) (v : Vol) (s : Int) (d : ByteArray) (h : VolAt w b mb pv v) (hno : ¬ (v.down = false ∧ 0 ≤ s ∧ s < v.sectors ∧ d.size = 128 ∧ v.pend.length < 4096)) :
    Calls Try.prog 64 #[.pointer (some ⟨b, 0, none⟩), .int .i64 s, .string d] w fun e w' => e = .returned (.int .i64 (vWrite v s d).1) ∧ w = w' := by
  have hck := check_c w b mb pv v s h
  by_cases hk : vCheck v s = 0
  · have hr : v.down = false ∧ 0 ≤ s ∧ s < v.sectors := by
      unfold vCheck at hk
      cases hd : v.down
      · rw [hd] at hk; simp at hk; exact ⟨rfl, by omega, by omega⟩
      · rw [hd] at hk; simp at hk
    have hv : vWrite v s d = if d.size ≠ 128 then (28, v) else (19, v) := by
      unfold vWrite
      rw [if_neg (by simp [hr.1]), if_neg (by omega)]
      split
      · rfl
      · rename_i h1; rw [if_pos (by have : ¬ v.pend.length < 4096 := fun h2 => hno ⟨hr.1, hr.2.1, hr.2.2, by omega, h2⟩; omega)]
    rw [hk] at hck
    have Hck := Lib.hid hck
    have hc := cell_of h.blk
    simp only [vcells] at hc
    obtain ⟨po, pl, pc, hpv, hpl⟩ : ∃ po pl pc, pv = .slice po pl pc ∧ pl = v.pend.length := by
      rcases h.pend.2 with ⟨hv, h0⟩ | ⟨g, cap, cur, hv, _⟩
      · exact ⟨_, _, _, hv, h0.symm⟩
      · exact ⟨_, _, cap, hv, rfl⟩
    rw [hpv] at hc
    rw [hv]
    by_cases hl : d.size = 128
    · have hlen : ((d.size : Int) != 128) = false := by rw [hl]; rfl
      have hfull : 4096 ≤ pl := by have : ¬ v.pend.length < 4096 := fun h2 => hno ⟨hr.1, hr.2.1, hr.2.2, hl, h2⟩; omega
      have hdec : decide ((4096 : Int) ≤ pl) = true := by simp; omega
      rw [if_neg (by omega)]
      clear hck hk hr hv hno hpv hpl hl h hfull
      go_enter Try.func64, Try.ntmps64
      go_wp2_with (go_at_call 71; refine Hck.out.mono ?_; rintro e w' ⟨rfl, rfl⟩)
      go_returns
      exact ⟨rfl, rfl⟩
    · have hlen : ((d.size : Int) != 128) = true := by rw [bne_iff_ne]; omega
      rw [if_pos hl]
      clear hck hk hr hv hno hpv hpl hl h
      go_enter Try.func64, Try.ntmps64
      go_wp2_with (go_at_call 71; refine Hck.out.mono ?_; rintro e w' ⟨rfl, rfl⟩)
      go_returns
      exact ⟨rfl, rfl⟩
  · have hv : (vWrite v s d).1 = vCheck v s := by
      unfold vCheck at hk
      unfold vWrite vCheck
      by_cases hd : v.down = true
      · rw [if_pos hd, if_pos hd]
      · by_cases hr : s < 0 ∨ v.sectors ≤ s
        · rw [if_neg hd, if_neg hd, if_pos hr, if_pos hr]
        · rw [if_neg hd, if_neg hr] at hk; exact absurd rfl hk
    rw [hv]
    have hne : (vCheck v s != 0) = true := by rw [bne_iff_ne]; exact hk
    have Hck := Lib.hid hck
    clear hck hk hv hno h
    generalize vCheck v s = ck at *
    go_enter Try.func64, Try.ntmps64
    go_wp2_with (go_at_call 71; refine Hck.out.mono ?_; rintro e w' ⟨rfl, rfl⟩)
    go_returns
    exact ⟨rfl, rfl⟩
theorem vWrite_same (v : Vol) (s : Int) (d : ByteArray) (hno : ¬ (v.down = false ∧ 0 ≤ s ∧ s < v.sectors ∧ d.size = 128 ∧ v.pend.length < 4096)) : (vWrite v s d).2 = v := by
  unfold vWrite
  split
  · rfl
  split
  · rfl
  split
  · rfl
  split
  · rfl
  · rename_i h1 h2 h3 h4
    exact absurd ⟨by simpa using h1, by omega, by omega, by omega, by omega⟩ hno
theorem write_c (w : World) (b mb : Nat) (pv : Value) (v : Vol) (s : Int) (d : ByteArray) (h : VolAt w b mb pv v) :
    Calls Try.prog 64 #[.pointer (some ⟨b, 0, none⟩), .int .i64 s, .string d] w fun e w' => e = .returned (.int .i64 (vWrite v s d).1) ∧ VolTo w b mb pv (vWrite v s d).2 w' := by
  by_cases hok : v.down = false ∧ 0 ≤ s ∧ s < v.sectors ∧ d.size = 128 ∧ v.pend.length < 4096
  · exact write_ok w b mb pv v s d h hok.1 hok.2.1 hok.2.2.1 hok.2.2.2.1 hok.2.2.2.2
  · refine (write_e w b mb pv v s d h hok).mono ?_
    rintro e w' ⟨rfl, rfl⟩
    exact ⟨rfl, by rw [vWrite_same v s d hok]; exact h.here⟩
set_option maxRecDepth 100000 in
theorem write_n (w : World) (s : Int) (d : ByteArray) : Calls Try.prog 64 #[.pointer none, .int .i64 s, .string d] w fun e w' => e = .returned (.int .i64 1) ∧ w = w' := by
  go_enter Try.func64, Try.ntmps64
  go_wp2_with (go_at_call 71; refine (check_n _ _).mono ?_; rintro e w' ⟨rfl, rfl⟩)
  go_returns
  exact ⟨rfl, rfl⟩
end Go.Proofs.Ytgmggmpkbfljfaa
