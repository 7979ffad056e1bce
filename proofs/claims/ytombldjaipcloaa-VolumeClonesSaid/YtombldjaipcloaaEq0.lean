/- Equal of two devices whose numbers are the same. -/
import Derived.Test.YtombldjaipcloaaEq
set_option linter.unusedVariables false
set_option linter.unusedSimpArgs false
namespace Go.Proofs.Ytombldjaipcloaa
open Go.RowKit
/-- The worlds in which nothing of w has turned. -/
structure KW (w : World) where
  x : World
  k : Keep [] w x
def Wk (w : World) (n : KW w) : World := n.x
instance (w : World) : Nonempty (KW w) := ⟨⟨w, Keep.refl _ _⟩⟩
/-- A region that draws its order, whose operations read and whose callees leave all that was there: one walk. -/
theorem wp_region_keep {P : Program} {id : Nat} {Q : Exit → Act → World → Prop} {a : Act} {w : World} {l : List Oper} (hm : P.follows .mixedOrders = true) (hB : Region.lexB .any l.toArray = true)
    (h : wpQuiet P l.toArray (fun w' => ∃ n, w' = Wk w n) (fun a' => ∀ w', (∃ n, w' = Wk w n) → Q .normal a' w') l a) : (Code.region id l.toArray true).wp P Q a w :=
  wp_region_quiet (C := fun w' => ∃ n, w' = Wk w n) hm hB ⟨⟨w.drew, Keep.drew _ _⟩, rfl⟩ (by simpa using h)
set_option maxHeartbeats 8000000 in
set_option maxRecDepth 100000 in
theorem equal_0 (w : World) (b mb b2 mb2 : Nat) (pv pv2 : Value) (sectors : Int) (dur pend dur2 pend2 : IS) (limited down : Bool) (left writes barriers : Int) (h : VolAt w b mb pv ⟨sectors, dur, pend, limited, down, left, writes, barriers⟩) (h2 : VolAt w b2 mb2 pv2 ⟨sectors, dur2, pend2, limited, down, left, writes, barriers⟩) (hl : pend.length ≤ 4096) (hl2 : pend2.length ≤ 4096) (g1 : Goods dur) (g2 : Goods dur2) (nd : (dur.map (·.1)).Nodup) (hm : mapEq dur dur2 = false) :
    Calls Try.prog 35 #[.pointer (some ⟨b, 0, none⟩), .pointer (some ⟨b2, 0, none⟩)] w fun e w' => e = .returned (.bool (false)) ∧ Keep [] w w' := by
  have hl1' := hl
  obtain ⟨po, pc, rfl⟩ := own_form h.pend
  obtain ⟨qo, qc, rfl⟩ := own_form h2.pend
  have Hme : Hid (∀ n, Calls Try.prog 50 #[.map (some mb), .map (some mb2)] (Wk w n) fun e w' => e = .returned (.bool false) ∧ ∃ m, w' = Wk w m) := fun n => by
    have := mapsEqual_c n.x mb mb2 dur dur2 (h.keep0 n.k).map (h2.keep0 n.k).map g1 g2 nd
    rw [hm] at this
    exact this.mono fun e w' hw => ⟨hw.1, ⟨w', n.k.trans0 (Keep.grown hw.2 (by simp))⟩, rfl⟩
  have Hse : Hid (∀ n, Calls Try.prog 51 #[.slice po pend.length pc, .slice qo pend2.length qc] (Wk w n) fun e w' => e = .returned (.bool (decide (pend = pend2))) ∧ ∃ m, w' = Wk w m) := fun n =>
    (slicesEqual_c n.x pend pend2 _ _ (h.keep0 n.k).pend (h2.keep0 n.k).pend hl hl2).mono fun e w' hw => ⟨hw.1, ⟨w', n.k.trans0 hw.2⟩, rfl⟩
  have hx1 : ∀ n, (∀ i : Nat, (Wk w n).cell? ⟨b, i, none⟩ = (#[Value.int .i64 sectors, .map (some mb), .slice po pend.length pc, .bool limited, .bool down, .int .i64 left, .int .i64 writes, .int .i64 barriers] : Array Value)[i]?) := fun n => cell_of (h.keep0 n.k).blk
  have hx2 : ∀ n, (∀ i : Nat, (Wk w n).cell? ⟨b2, i, none⟩ = (#[Value.int .i64 sectors, .map (some mb2), .slice qo pend2.length qc, .bool limited, .bool down, .int .i64 left, .int .i64 writes, .int .i64 barriers] : Array Value)[i]?) := fun n => cell_of (h2.keep0 n.k).blk
  generalize decide (pend = pend2) = rp at *
  clear h h2 g1 g2 nd hl hl2 hm
  go_enter Try.func35, Try.ntmps35
  go_wp2_with fail
  simp only [List.append]
  refine wp_region_keep (by kernel_rfl) (by kernel_rfl) ?_
  repeat (first
    | go_big_quiet_skip
    | (go_big_quiet_want; go_big_quiet_op; first | go_big_quiet_on | go_big_quiet_call (first
      | (go_at_call 50; exact Hme.out _)
      | (go_at_call 51; exact Hse.out _))))
  refine wpQuiet_nil ?_
  rintro _ ⟨⟨w1, hk⟩, rfl⟩
  go_wp2_with fail
  go_ret
  exact ⟨rfl, hk⟩
end Go.Proofs.Ytombldjaipcloaa
