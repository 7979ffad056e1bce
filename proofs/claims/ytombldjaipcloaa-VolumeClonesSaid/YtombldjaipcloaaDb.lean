/- The model's functions: blank, content, write. -/
import Derived.Test.YtombldjaipcloaaDk
set_option linter.unusedVariables false
set_option linter.unusedSimpArgs false
namespace Go.Proofs.Ytombldjaipcloaa
open Go.RowKit
def dNew (n : Nat) : Dk := ⟨List.replicate n (fillS 0), [], false, false, 0, 0, 0⟩
theorem infoS : (Try.prog.info? 9).map (fun i => (i.zero, i.size, i.bytes)) = some (some (.string ⟨#[]⟩), 1, 16) := by kernel_rfl
theorem scells_snoc (l : List ByteArray) (x : ByteArray) : scells l ++ [.string x] = scells (l ++ [x]) := by simp [scells]
/-- A new row of strings is stored. -/
theorem DkAt.setDur {w w1 : World} {b : Nat} {dv pv : Value} {d : Dk} {F : List Nat} {v : Value} {l : List ByteArray} (h : DkAt w b dv pv d) (hk : Keep F w w1) (hb : b ∉ F) (hp : ∀ g, pv.ownBlock = some g → g ∉ F)
    (ho : w1.ownsRow 0 9 1 v l.length (scells l)) :
    DkAt (w1.setCell ⟨b, 0, none⟩ v) b v pv { d with dur := l } := by
  have hk1 : Keep [b] w1 (w1.setCell ⟨b, 0, none⟩ v) := Keep.setCell _ _ _ _ _ (by simp)
  have hb1 := hk.heap h.blk hb
  refine ⟨by rw [set_same hb1]; rfl, own_keep ho hk1 (fun g hg hm => ?_), own_keep (own_keep h.pend hk hp) hk1 (fun g hg hm => ?_)⟩
  · exact own_ne ho hb1 (by decide +kernel) (by simp at hm; rw [hg, hm])
  · exact h.pv_ne (by simp at hm; rw [hg, hm])
theorem DkAt.setPend {w w1 : World} {b : Nat} {dv pv : Value} {d : Dk} {F : List Nat} {v : Value} {p : IS} (h : DkAt w b dv pv d) (hk : Keep F w w1) (hb : b ∉ F) (hp : ∀ g, dv.ownBlock = some g → g ∉ F)
    (ho : w1.ownsRow 0 59 2 v p.length (pcells p)) :
    DkAt (w1.setCell ⟨b, 1, none⟩ v) b dv v { d with pend := p } := by
  have hk1 : Keep [b] w1 (w1.setCell ⟨b, 1, none⟩ v) := Keep.setCell _ _ _ _ _ (by simp)
  have hb1 := hk.heap h.blk hb
  refine ⟨by rw [set_same hb1]; rfl, own_keep (own_keep h.dur hk hp) hk1 (fun g hg hm => ?_), own_keep ho hk1 (fun g hg hm => ?_)⟩
  · exact h.dv_ne (by simp at hm; rw [hg, hm])
  · exact own_ne ho hb1 (by decide +kernel) (by simp at hm; rw [hg, hm])
theorem one_news (w : World) (v : Value) (t : TypeId) : ∀ (j : Nat) (u : Value), [v][j]? = some u → (w.alloc (.cells #[v] t)).cell? ((⟨w.heap.size, 0, none⟩ : Addr).add j) = some u := by
  intro j u hj
  match j, hj with
  | 0, hj => simp at hj; subst hj; simp [Addr.add, go_sem]
theorem one_str (s : ByteArray) : ∀ u ∈ [Value.string s], u.oneCell' = true := by intro u hu; simp at hu; subst hu; rfl
theorem fill_p0 : Pure Try.prog 14 #[.int .u8 0] (.string (fillS 0)) := fill_p 0
set_option maxRecDepth 100000 in
set_option maxHeartbeats 2000000 in
theorem blank_c (n : Nat) (hn : n ≤ 65536) (w : World) :
    Calls Try.prog 19 #[.int .i64 n] w fun e w' => e = .returned (.pointer (some ⟨w.heap.size, 0, none⟩)) ∧ (∃ F, DkH w.heap.size (dNew n) w' F ∧ ∀ x ∈ F, w.heap.size ≤ x) ∧ Keep [] w w' := by
  obtain ⟨i0, hi, hz0, hz1, hz2⟩ := info_parts infoS
  have Hi := Lib.hid (And.intro hi (And.intro hz0 (And.intro hz1 hz2)))
  clear hi hz0 hz1 hz2
  go_enter Try.func19, Try.ntmps19
  go_wp2_with fail
  go_loopw [4] (fun i wr => ∃ k : Nat, k ≤ n ∧ i = .int .i64 k ∧ ∃ dv, DkAt wr w.heap.size dv (.slice none 0 0) (dNew k) ∧ (∀ g, dv.ownBlock = some g → w.heap.size ≤ g) ∧ Keep [] w wr) (fun i _ => n - (intOf i).toNat)
  case atStart =>
    refine ⟨0, by omega, rfl, .slice none 0 0, ⟨World.alloc_heap_new w _, World.ownsRow_nil _ _ _ _, World.ownsRow_nil _ _ _ _⟩, by simp [Value.ownBlock], (Keep.refl [] w).allocPast _⟩
  case round =>
    obtain ⟨k, hk, rfl, dv, hd, hfr, hkp⟩ := hrel
    by_cases hlt : k < n
    · obtain ⟨po, pc, rfl⟩ := own_form hd.dur
      have hc := cell_of hd.blk
      have hf := frozen_of hd.blk
      simp only [dcells] at hc
      have hb := lt_of_heap hd.blk
      have hlen : (dNew k).dur.length = k := List.length_replicate
      have Hlen := Lib.hid hlen
      have hdd := hd.dur
      rw [hlen] at hdd hc hfr
      have Hdd := Lib.hid hdd
      have Hd := Lib.hid hd
      have Hfr := Lib.hid hfr
      have Hkp := Lib.hid hkp
      clear hd hfr hkp hdd hlen
      go_wp2_with fail
      have hdv : (Value.slice po k pc).ownBlock ≠ some w.heap.size := by have := Hd.out.dv_ne; rwa [Hlen.out] at this
      have Hdv := Lib.hid hdv
      clear hdv
      go_region_law (first
        | (refine step_append2 _ (by rfl) _ _ 40 (by rfl) 9 i0 _ 1 16 Try.underlying40 Hi.out.1 Hi.out.2.1 Hi.out.2.2.1 Hi.out.2.2.2 rfl (by decide) _ _ _ (by rfl) (own_keep (F := []) Hdd.out ((Keep.drew [] _).trans ((Keep.of_below (F := []) hb1).trans (Keep.alloc [] _ _) (by simp)) (by simp)) (by simp)) ⟨w1.heap.size, 0, none⟩ 1 1 [.string (fillS 0)] (by rfl) rfl (one_news _ _ _) (one_str _) (by decide) (by unfold maxLen; omega) (by omega) ?_
           intro g cap w2 ho hg hfr2
           have hk2 : Keep (Value.slice po k pc).ownBlock.toList wr w2 := ((Keep.drew _ _).trans ((Keep.of_below (F := []) hb1).trans (Keep.alloc [] _ _) (by simp)) (by simp)).trans (Keep.grown hg (fun k hk => by rw [hk]; simp)) (fun x hx => .inl hx)
           have hb2 := hk2.heap Hd.out.blk (fun hm => Hdv.out (by simpa using hm))
           have hf2 := frozen_of hb2
           have hc2 := cell_of hb2
           simp only [dcells] at hc2)
        | (go_simp; go_at_call 14; refine (fill_p 0 _).mono ?_; rintro e w1 ⟨rfl, hb1⟩; have hc1 : ∀ i, w1.cell? ⟨w.heap.size, i, none⟩ = _ := fun i => (hb1.cell hb).trans (hc i); have hlt1 : w.heap.size < w1.heap.size := Nat.lt_of_lt_of_le hb hb1.size))
      all_goals
        have ho' : w2.ownsRow 0 9 1 (.slice (some ⟨g, 0, none⟩) (k + 1) cap) (dNew (k + 1)).dur.length (scells (dNew (k + 1)).dur) := by
          have e1 : (dNew (k + 1)).dur = (dNew k).dur ++ [fillS 0] := by unfold dNew; rw [List.replicate_succ']
          rw [e1, ← scells_snoc, List.length_append, List.length_singleton, Hlen.out]; exact ho
        have hd2 := Hd.out.setDur hk2 (fun hm => Hdv.out (by simpa using hm)) (by simp [Value.ownBlock]) ho'
        have hk3 : Keep [w.heap.size] w2 (w2.setCell ⟨w.heap.size, 0, none⟩ (.slice (some ⟨g, 0, none⟩) (k + 1) cap)) := Keep.setCell _ _ _ _ _ (by simp)
        have Hd2 := Lib.hid hd2
        have hfr3 : w.heap.size ≤ g := by
          rcases hfr2 with h | h
          · exact Hfr.out g h.symm
          · have := Hkp.out.size; have := hb1.size; simp at *; omega
        have hkk : Keep [] w (w2.setCell ⟨w.heap.size, 0, none⟩ (.slice (some ⟨g, 0, none⟩) (k + 1) cap)) := (Hkp.out.trans hk2 (fun x hx => .inr (Hfr.out x (by simpa using hx)))).trans hk3 (by simp)
        have Hkk := Lib.hid hkk
        clear hd2 hk3 hkk hk2 ho ho' hf2 hc2 hb2 hc1 hb1
        go_wp2_with fail
        go_roundw
        case rel => exact ⟨k + 1, by omega, by go_num, _, Hd2.out, (fun g' hg' => by cases hg'; exact hfr3), Hkk.out⟩
        case measure => simp [intOf]; omega
    · obtain rfl : k = n := by omega
      have Hd := Lib.hid hd
      have Hfr := Lib.hid hfr
      have Hkp := Lib.hid hkp
      clear hd hfr hkp
      go_wp2_with fail
      go_returns
      refine ⟨rfl, ⟨_, ⟨dv, _, Hd.out, rfl⟩, fun x hx => ?_⟩, Hkp.out⟩
      rcases mem_fp.1 hx with rfl | hx | hx
      · omega
      · exact Hfr.out x hx
      · cases hx

/-! ### content -/
def dCont (d : Dk) (s : Int) : ByteArray := d.pend.foldl (fun c p => if p.1 = s then p.2 else c) ((d.dur[s.toNat]?).getD ⟨#[]⟩)
def dContK (d : Dk) (s : Int) (k : Nat) : ByteArray := (d.pend.take k).foldl (fun c p => if p.1 = s then p.2 else c) ((d.dur[s.toNat]?).getD ⟨#[]⟩)
theorem dContK_succ (d : Dk) (s : Int) (k : Nat) (h : k < d.pend.length) : dContK d s (k + 1) = if (d.pend[k]).1 = s then (d.pend[k]).2 else dContK d s k := by
  unfold dContK
  rw [List.take_succ_eq_append_getElem h, List.foldl_append]
  rfl
theorem dContK_all (d : Dk) (s : Int) : dContK d s d.pend.length = dCont d s := by unfold dContK dCont; rw [List.take_length]
/-- An element of the row of strings. -/
theorem DkAt.durElem {w : World} {b : Nat} {pv : Value} {d : Dk} {po : Option Addr} {n pc : Nat} (h : DkAt w b (.slice po n pc) pv d) (s : Nat) (hs : s < d.dur.length) :
    ∃ g, po = some ⟨g, 0, none⟩ ∧ w.cell? ⟨g, s, none⟩ = some (.string ((d.dur[s]?).getD ⟨#[]⟩)) ∧ g < w.heap.size ∧ (∀ j, w.frozen? ⟨g, j, none⟩ = false) := by
  obtain ⟨g, cap, hv, hc, hg, hf⟩ := own_cells h.dur (by omega)
  injection hv with h1 _ _
  refine ⟨g, h1, ?_, hg, hf⟩
  rw [hc s (by omega), List.getElem?_eq_getElem hs]
  simp [scells, List.getElem?_eq_getElem hs]
theorem DkAt.pendElem {w : World} {b : Nat} {dv : Value} {d : Dk} {po : Option Addr} {n pc : Nat} (h : DkAt w b dv (.slice po n pc) d) (k : Nat) (hk : k < d.pend.length) :
    ∃ g, po = some ⟨g, 0, none⟩ ∧ w.cell? ⟨g, k * 2, none⟩ = some (.int .i64 (d.pend[k]).1) ∧ w.cell? ⟨g, k * 2 + 1, none⟩ = some (.string (d.pend[k]).2) ∧ g < w.heap.size := by
  obtain ⟨g, cap, hv, hc, hg, hf⟩ := own_cells h.pend (by omega)
  injection hv with h1 _ _
  exact ⟨g, h1, by rw [hc _ (by omega)]; exact (pcells_get _ k hk).1, by rw [hc _ (by omega)]; exact (pcells_get _ k hk).2, hg⟩
set_option maxHeartbeats 1000000 in
theorem content_c (w : World) (b : Nat) (dv pv : Value) (d : Dk) (s : Nat) (hs : s < d.dur.length) (hl : d.pend.length ≤ 4096) (hl2 : d.dur.length ≤ 65536) (h : DkAt w b dv pv d) :
    Calls Try.prog 23 #[.pointer (some ⟨b, 0, none⟩), .int .i64 s] w fun e w' => e = .returned (.string (dCont d s)) ∧ w = w' := by
  obtain ⟨po, pc, rfl⟩ := own_form h.dur
  obtain ⟨qo, qc, rfl⟩ := own_form h.pend
  obtain ⟨g, rfl, hcs, _, _⟩ := h.durElem s hs
  have hel := fun k hk => h.pendElem k hk
  have h0 : dContK d s 0 = (d.dur[s]?).getD ⟨#[]⟩ := rfl
  rw [← h0] at hcs
  have hsu := dContK_succ d s
  have hall := Lib.hid (dContK_all d s)
  have hc := cell_of h.blk
  simp only [dcells] at hc
  have Hel := Lib.hid hel
  have Hsu := Lib.hid hsu
  generalize hn : d.dur.length = n at *
  clear h hel hsu h0 hn
  go_enter Try.func23, Try.ntmps23
  go_wp2_with fail
  go_loopw [5, 6] (fun c i wr => ∃ k : Nat, k ≤ d.pend.length ∧ i = .int .i64 k ∧ c = .string (dContK d s k) ∧ wr = w) (fun _ i _ => d.pend.length - (intOf i).toNat)
  case atStart => exact ⟨0, by omega, rfl, rfl, rfl⟩
  case round =>
    obtain ⟨k, hk, rfl, rfl, rfl⟩ := hrel
    by_cases hlt : k < d.pend.length
    · obtain ⟨q, rfl, e1, e2, _⟩ := Hel.out k hlt
      have hst := Hsu.out k hlt
      by_cases he : (d.pend[k]).1 = s
      · rw [if_pos he] at hst
        have ht : ((d.pend[k]).1 == (s : Int)) = true := by rw [beq_iff_eq]; exact he
        have Hst := Lib.hid hst
        clear hst he
        generalize d.pend[k] = p at *
        go_wp2_with fail
        go_roundw
        case rel => exact ⟨k + 1, by omega, by go_num, by rw [Hst.out], trivial⟩
        case measure => simp [intOf]; omega
      · rw [if_neg he] at hst
        have ht : ((d.pend[k]).1 == (s : Int)) = false := by rw [beq_eq_false_iff_ne]; exact he
        have Hst := Lib.hid hst
        clear hst he
        generalize d.pend[k] = p at *
        go_wp2_with fail
        go_roundw
        case rel => exact ⟨k + 1, by omega, by go_num, by rw [Hst.out], trivial⟩
        case measure => simp [intOf]; omega
    · obtain rfl : k = d.pend.length := by omega
      go_wp2_with fail
      go_returns
      exact ⟨(by show Ending.returned (.string (dContK d s d.pend.length)) = _; rw [hall.out]), rfl⟩
end Go.Proofs.Ytombldjaipcloaa
