/- The small functions of the journal over the device: check, write. -/
import Derived.Test.YtgmggmpkbfljfaaT2
import Derived.Test.YtgmggmpkbfljfaaQt
import Derived.Test.YtgmggmpkbfljfaaM
set_option linter.unusedVariables false
set_option linter.unusedSimpArgs false
set_option maxRecDepth 100000
namespace Go.Proofs.Ytgmggmpkbfljfaa
open Go.RowKit
theorem To.from {A : HP} {F : List Nat} {w w1 w2 : World} (h : To A F w1 w2) (hk : Keep F w w1) : To A F w w2 := by
  obtain ⟨F', h1, h2, h3⟩ := h
  refine ⟨F', h1, hk.trans h2 (fun x hx => .inl hx), fun x hx => ?_⟩
  have := hk.size
  rcases h3 x hx with h | h
  · exact .inl h
  · right; omega
theorem To.before {A : HP} {F F' : List Nat} {w w1 w2 : World} (h : To A F' w1 w2) (hk : Keep F w w1) (hs : ∀ x ∈ F', x ∈ F ∨ w.heap.size ≤ x) : To A F w w2 := by
  obtain ⟨F'', h1, h2, h3⟩ := h
  refine ⟨F'', h1, hk.trans h2 hs, fun x hx => ?_⟩
  have := hk.size
  rcases h3 x hx with h | h
  · exact hs x h
  · right; omega
def jCheck (v : Vol) : Int := if v.down then 20 else if v.sectors ≤ 2 then 2 else 0
theorem jcheck_c (w : World) (b mb : Nat) (pv : Value) (v : Vol) (h : VolAt w b mb pv v) :
    Calls Try.prog 51 #[.pointer (some ⟨b, 0, none⟩)] w fun e w' => e = .returned (.int .i64 (jCheck v)) ∧ w' = w := by
  have HD := Lib.hid (down_c w b mb pv v h)
  have HL := Lib.hid (len_c w b mb pv v h)
  clear h
  unfold jCheck
  obtain ⟨sectors, dur, pend, limited, down, left, writes, barriers⟩ := v
  dsimp only at HD HL ⊢
  cases down
  · by_cases hs : sectors ≤ 2
    · go_enter Try.func51, Try.ntmps51
      go_wp2_with fail
      refine HD.out.mono ?_
      rintro e w' ⟨rfl, rfl⟩
      go_wp2_with fail
      refine HL.out.mono ?_
      rintro e w' ⟨rfl, rfl⟩
      go_wp2_with fail
      go_ret
      exact ⟨by simp [hs], rfl⟩
    · have hs' : 2 < sectors := by omega
      go_enter Try.func51, Try.ntmps51
      go_wp2_with fail
      refine HD.out.mono ?_
      rintro e w' ⟨rfl, rfl⟩
      go_wp2_with fail
      refine HL.out.mono ?_
      rintro e w' ⟨rfl, rfl⟩
      go_wp2_with fail
      go_ret
      exact ⟨by simp [hs], rfl⟩
  · go_enter Try.func51, Try.ntmps51
    go_wp2_with fail
    refine HD.out.mono ?_
    rintro e w' ⟨rfl, rfl⟩
    go_wp2_with fail
    go_ret
    exact ⟨rfl, rfl⟩
theorem jcheck_n (w : World) : Calls Try.prog 51 #[.pointer none] w fun e w' => e = .returned (.int .i64 1) ∧ w' = w := by
  go_enter Try.func51, Try.ntmps51
  go_wp2_with fail
  go_ret
  exact ⟨rfl, rfl⟩
def pgS (p : Pg) : ByteArray := pageS p.g p.f p.p p.k
def jW (v : Vol) (p : Pg) : Int × Vol := if (vWrite v ((p.g : Int) % 2) (pgS p)).1 = 0 then vBarrier (vWrite v ((p.g : Int) % 2) (pgS p)).2 else vWrite v ((p.g : Int) % 2) (pgS p)
theorem vWrite_len (v : Vol) (s : Int) (d : ByteArray) : (vWrite v s d).2.pend.length ≤ v.pend.length + 1 := by
  have hop : ∀ v : Vol, (vOp v).2.pend = v.pend := fun v => by unfold vOp; split <;> (try split) <;> rfl
  unfold vWrite
  split
  · simp
  split
  · simp
  split
  · simp
  split
  · simp
  · dsimp only
    split
    · rw [hop]; simp
    · dsimp only; rw [hop]; simp
set_option maxHeartbeats 2000000 in
theorem jwrite_m (b mb : Nat) (v : Vol) (p : Pg) (hp : pgFit p) (hlen : v.pend.length < 4096) :
    Met Try.prog 47 #[.pointer (some ⟨b, 0, none⟩), .agg (pgA p)] (.int .i64 (jW v p).1) (VolH b mb v) (VolH b mb (jW v p).2) := by
  intro w F hF
  obtain ⟨g, f, q, k⟩ := p
  obtain ⟨hg, hf, hq, hk⟩ := hp
  dsimp only at hg hf hq hk
  have HE : Hid (∀ w', Calls Try.prog 68 #[.agg #[.int .i64 g, .int .i64 f, .int .i64 q, .int .i64 k]] w' fun e w'' => e = .returned (.string (pgS ⟨g, f, q, k⟩)) ∧ Keep [] w' w'') := fun w' => pageEncode_c w' g f q k hg hf hq hk
  have HF := Lib.hid hF
  have hwl := vWrite_len v ((g : Int) % 2) (pgS ⟨g, f, q, k⟩)
  have HW := Lib.hid (write_m b mb v ((g : Int) % 2) (pgS ⟨g, f, q, k⟩))
  have HB : Hid (Met Try.prog 65 #[.pointer (some ⟨b, 0, none⟩)] _ (VolH b mb (vWrite v ((g : Int) % 2) (pgS ⟨g, f, q, k⟩)).2) _) := barrier_m b mb (vWrite v ((g : Int) % 2) (pgS ⟨g, f, q, k⟩)).2 (by omega)
  have hjw : jW v ⟨g, f, q, k⟩ = if (vWrite v ((g : Int) % 2) (pgS ⟨g, f, q, k⟩)).1 = 0 then vBarrier (vWrite v ((g : Int) % 2) (pgS ⟨g, f, q, k⟩)).2 else vWrite v ((g : Int) % 2) (pgS ⟨g, f, q, k⟩) := rfl
  have Hkb : Hid (∀ n : KW (w.alloc (.cells #[.int .i64 g, .int .i64 f, .int .i64 q, .int .i64 k] 73)), ∀ i, (Wk _ n).cell? ⟨w.heap.size, i, none⟩ = #[.int .i64 g, .int .i64 f, .int .i64 q, .int .i64 k][i]?) := fun n i => by
    exact cell_of (n.k.heap (World.alloc_heap_new w _) (by simp)) i
  clear hF hwl
  unfold pgA
  dsimp only
  go_enter Try.func47, Try.ntmps47
  go_wp2_with fail
  have Hk0 := Lib.hid (Keep.alloc [] w (.cells #[.int .i64 g, .int .i64 f, .int .i64 q, .int .i64 k] 73))
  generalize w.alloc (.cells #[.int .i64 g, .int .i64 f, .int .i64 q, .int .i64 k] 73) = wb at *
  have hx0 := fun n => Hkb.out n 0
  have hx1 := fun n => Hkb.out n 1
  have hx2 := fun n => Hkb.out n 2
  have hx3 := fun n => Hkb.out n 3
  simp only [List.getElem?_toArray, List.getElem?_cons_zero, List.getElem?_cons_succ] at hx0 hx1 hx2 hx3
  refine wp_region_keep_tail 6 (by kernel_rfl) (by kernel_rfl) ?_
  simp only [List.take_succ_cons, List.take_zero, List.drop_succ_cons, List.drop_zero]
  repeat (first
    | go_big_quiet_skip
    | (go_big_quiet_want; go_big_quiet_op; first | go_big_quiet_on | go_big_quiet_call (first
      | (go_at_call 68; exact (HE.out _).mono fun e w' h => ⟨h.1, ⟨w', KW.k _ |>.trans0 h.2⟩, rfl⟩))))
  refine wpQuiet_nil ?_
  rintro w1 ⟨⟨_, hk1⟩, rfl⟩
  have hk01 := Hk0.out.trans0 hk1
  have HF1 := Lib.hid ((volH_stab b mb v).keep HF.out hk01 (by simp))
  have Hk1 := Lib.hid hk01
  clear hk1 hk01 hx0 hx1 hx2 hx3
  change wpList _ _ _ _ _ w1
  have hkf : Keep F w w1 := Hk1.out.mono (by simp)
  have Hkf := Lib.hid hkf
  clear hkf
  go_wp2_with fail
  refine (HW.out w1 F HF1.out).mono ?_
  generalize vWrite v ((g : Int) % 2) (pgS ⟨g, f, q, k⟩) = r at *
  obtain ⟨e1, v1⟩ := r
  dsimp only at HB hjw ⊢
  rintro e w2 ⟨rfl, ht2⟩
  have Hjw := Lib.hid hjw
  clear hjw
  by_cases he : e1 = 0
  · subst he
    have hb1 : ((0 : Int) != 0) = false := rfl
    obtain ⟨F2, hF2, hk2, hs2⟩ := ht2
    have HF2 := Lib.hid hF2
    have Hk2 := Lib.hid hk2
    have Hs2 := Lib.hid hs2
    clear hF2 hk2 hs2
    go_wp2_with fail
    refine (HB.out w2 F2 HF2.out).mono ?_
    rintro e w3 ⟨rfl, ht3⟩
    have Ht3 := Lib.hid ht3
    clear ht3
    go_wp2_with fail
    go_ret
    have hj : jW v ⟨g, f, q, k⟩ = vBarrier v1 := by simpa using Hjw.out
    rw [hj]
    exact ⟨rfl, To.from (Ht3.out.before Hk2.out Hs2.out) Hkf.out⟩
  · have hb1 : (e1 != 0) = true := by rw [bne_iff_ne]; exact he
    have Ht2 := Lib.hid ht2
    have hj : jW v ⟨g, f, q, k⟩ = (e1, v1) := by rw [Hjw.out, if_neg he]
    have Hj := Lib.hid hj
    clear ht2 hj he
    go_wp2_with fail
    go_ret
    rw [Hj.out]
    exact ⟨rfl, Ht2.out.from Hkf.out⟩
end Go.Proofs.Ytgmggmpkbfljfaa
