/- Read: the last pending write of the sector, else what is durable. -/
import Derived.RangeFuncNested
import Derived.RangeFuncBound
import Derived.RangeFuncCalls
import Derived.RangeFuncLeaves
import Derived.Shelf.Abstract
import Derived.Shelf.RegionOpen
import Derived.OwnWalkIn
import Derived.TacticsInMore
import Derived.LoopNIn
import Derived.LoopIn
import Derived.Test.YtgmggmpkbfljfaaP
set_option linter.unusedVariables false
set_option linter.unusedSimpArgs false
set_option maxRecDepth 100000
namespace Go.Proofs.Ytgmggmpkbfljfaa
open Go.RowKit Go.Shelf
attribute [local go_sem] Oper.semAt_some

abbrev Wr := Int × Int × ByteArray
def bwd (p : IS) (k : Nat) : Wr := (((p.length - 1 - k : Nat) : Int), p[p.length - 1 - k]?.getD (0, ⟨#[]⟩))
def bwds (p : IS) (k : Nat) : List Wr := (List.range k).map (bwd p)
theorem bwds_succ (p : IS) (k : Nat) : bwds p (k + 1) = bwds p k ++ [bwd p k] := by simp [bwds, List.range_succ]
theorem bwds_length (p : IS) (k : Nat) : (bwds p k).length = k := by simp [bwds]

set_option maxRecDepth 100000 in
set_option maxHeartbeats 2000000 in
theorem backward1_in (l Bs n₀ g cap : Nat) (p : IS) (hreach : p.length ≤ 4096) (hb : g < n₀) (J Jx : List Wr → World → Prop)
    (hY : ∀ pre x W, J pre W → pre.length < p.length → YieldAt Fence.wide 2 Try.prog l #[.int .i64 x.1, .agg #[.int .i64 x.2.1, .string x.2.2]] W fun e W' =>
      (e = .returned (.bool true) ∧ J (pre ++ [x]) W' ∧ Below n₀ W W') ∨ (e = .returned (.bool false) ∧ Jx (pre ++ [x]) W'))
    (W : World) (hBs : W.cell? ⟨Bs, 0, none⟩ = some (.slice (some ⟨g, 0, none⟩) p.length cap)) (hBn : Bs < n₀)
    (hc : ∀ j (h : j < p.length), W.cell? ⟨g, j * 2, none⟩ = some (.int .i64 (p[j]).1) ∧ W.cell? ⟨g, j * 2 + 1, none⟩ = some (.string (p[j]).2)) (h0 : J [] W) :
    CallsIn Fence.wide 3 Try.prog 78 #[.func (.yield l) #[] #[], .pointer (some ⟨Bs, 0, none⟩)] W fun e W' => (∃ v, e = .returned v) ∧
      ((∃ ys, ys = bwds p p.length ∧ J ys W') ∨ (∃ pre, (∃ k, k ≤ p.length ∧ pre = bwds p k) ∧ Jx pre W')) := by
  refine callsIn_of_wp Try.func78 rfl trivial ?_ rfl
  simp only [Try.ntmps78, List.size_toArray, List.length_cons, List.length_nil, Nat.reduceAdd, Nat.reduceSub, Array.replicate_succ, Array.replicate_zero, List.push_toArray, List.append_toArray, List.nil_append, List.cons_append]
  gi_wp2
  gi_loopw [3] (fun i wr => ∃ k : Nat, k ≤ p.length ∧ i = .int .i64 ((p.length : Int) - 1 - k) ∧ J (bwds p k) wr ∧ Below n₀ W wr)
    (fun i _ => (intOf i + 1).toNat)
  case atStart => exact ⟨0, Nat.zero_le _, by simp, h0, Below.refl _ _⟩
  case round =>
    obtain ⟨k, hk, rfl, hJs, hnx⟩ := hrel
    by_cases hlt : k < p.length
    · obtain ⟨fn, tmps, assign, body, hy, hR⟩ := hY _ (bwd p k) wr hJs (by rw [bwds_length]; exact hlt)
      obtain ⟨j, hj, hjl⟩ : ∃ j : Nat, (p.length : Int) - 1 - k = j ∧ j < p.length := ⟨p.length - 1 - k, by omega, by omega⟩
      have hbw : bwd p k = ((j : Int), p[j]) := by
        unfold bwd
        have : p.length - 1 - k = j := by omega
        rw [this, List.getElem?_eq_getElem hjl]; rfl
      have e0 := (hnx.cell (p := ⟨Bs, 0, none⟩) hBn).trans hBs
      have e1 := (hnx.cell (p := ⟨g, j * 2, none⟩) hb).trans (hc j hjl).1
      have e2 := (hnx.cell (p := ⟨g, j * 2 + 1, none⟩) hb).trans (hc j hjl).2
      have HJ := Lib.hid (bwds_succ p k)
      rw [hbw] at hy HJ
      dsimp only at hy
      rw [hbw] at hR
      generalize hp : p[j] = x at *
      clear hp hc
      have Hj := Lib.hid hj
      rw [hj]
      clear hj hbw
      gi_wp2
      refine hR.mono ?_
      rintro e W3 (⟨rfl, hJ3, hk3⟩ | ⟨rfl, hJx3⟩)
      · gi_wp2
        go_roundw
        case rel => exact ⟨k + 1, by omega, by have := Hj.out; simp; omega, by rw [HJ.out]; exact hJ3, hnx.trans hk3⟩
        case measure => simp [intOf]
      · gi_wp2
        refine bodyPost_ret (results_none rfl _ _ _) rfl ?_
        exact ⟨⟨_, rfl⟩, .inr ⟨_, ⟨k + 1, by omega, HJ.out.symm⟩, hJx3⟩⟩
    · obtain rfl : k = p.length := by omega
      gi_wp2
      go_end0
      exact ⟨⟨_, rfl⟩, .inl ⟨_, rfl, hJs⟩⟩
set_option maxHeartbeats 1000000 in
theorem backward1_nil (l Bs : Nat) (J : List Wr → World → Prop) (W : World) (hBs : W.cell? ⟨Bs, 0, none⟩ = some (.slice none 0 0)) (h0 : J [] W) :
    CallsIn Fence.wide 3 Try.prog 78 #[.func (.yield l) #[] #[], .pointer (some ⟨Bs, 0, none⟩)] W fun e W' => (∃ v, e = .returned v) ∧ J [] W' := by
  refine callsIn_of_wp Try.func78 rfl trivial ?_ rfl
  simp only [Try.ntmps78, List.size_toArray, List.length_cons, List.length_nil, Nat.reduceAdd, Nat.reduceSub, Array.replicate_succ, Array.replicate_zero, List.push_toArray, List.append_toArray, List.nil_append, List.cons_append]
  gi_wp2
  gi_loopw [3] (fun i wr => i = .int .i64 (-1) ∧ J [] wr) (fun _ _ => 0)
  case atStart => exact ⟨rfl, h0⟩
  case round =>
    obtain ⟨rfl, hJs⟩ := hrel
    gi_wp2
    go_end0
    exact ⟨⟨_, rfl⟩, hJs⟩
theorem backward_in (a : Option Addr) (len cap : Nat) (w : World) :
    CallsIn Fence.wide 3 Try.prog 72 #[.slice a len cap] w fun e w' => e = .returned (.func (.func 78) #[] #[.pointer (some ⟨w.heap.size, 0, none⟩)]) ∧ w' = w.alloc (.cells #[.slice a len cap] 86) := by
  refine callsIn_of_wp Try.func72 rfl trivial ?_ rfl
  simp only [Try.ntmps72, List.size_toArray, List.length_cons, List.length_nil, Nat.reduceAdd, Nat.reduceSub, Array.replicate_succ, Array.replicate_zero, List.push_toArray, List.append_toArray, List.nil_append, List.cons_append]
  gi_wp2
  go_ret
  exact ⟨rfl, rfl⟩
theorem backward_stops (Bs n₀ : Nat) (sv : Value) (p : IS) (hreach : p.length ≤ 4096) (w : World) (hBs : Bs < n₀) (hn₀ : n₀ ≤ w.heap.size) (hc : w.cell? ⟨Bs, 0, none⟩ = some sv)
    (hI : (sv = .slice none 0 0 ∧ p = []) ∨ ∃ g cap, sv = .slice (some ⟨g, 0, none⟩) p.length cap ∧ g < n₀ ∧ ∀ j (h : j < p.length), w.cell? ⟨g, j * 2, none⟩ = some (.int .i64 (p[j]).1) ∧ w.cell? ⟨g, j * 2 + 1, none⟩ = some (.string (p[j]).2)) :
    SeqStopsK Fence.wide 3 Try.prog 78 #[.pointer (some ⟨Bs, 0, none⟩)] (fun x : Wr => #[Value.int .i64 x.1, Value.agg #[Value.int .i64 x.2.1, Value.string x.2.2]]) (Below n₀) (fun ys => ys = bwds p p.length) (fun pre => ∃ k, k ≤ p.length ∧ pre = bwds p k) p.length w := fun l J Jx W hW _ _ hY h0 => by
  have hc' := (hW.cell (p := ⟨Bs, 0, none⟩) (Nat.lt_of_lt_of_le hBs hn₀)).trans hc
  rcases hI with ⟨rfl, rfl⟩ | ⟨g, cap, rfl, hg, hcs⟩
  · exact (backward1_nil l Bs J W hc' h0).mono fun e W' ⟨he, hj⟩ => ⟨he, .inl ⟨_, rfl, hj⟩⟩
  · exact backward1_in l Bs n₀ g cap p hreach hg J Jx hY W hc' hBs (fun j hj => ⟨(hW.cell (p := ⟨g, j * 2, none⟩) (Nat.lt_of_lt_of_le hg hn₀)).trans (hcs j hj).1, (hW.cell (p := ⟨g, j * 2 + 1, none⟩) (Nat.lt_of_lt_of_le hg hn₀)).trans (hcs j hj).2⟩) h0

def lastW (p : IS) (s : Int) : Option ByteArray := (p.reverse.find? fun x => x.1 == s).map (·.2)
def vRead (v : Vol) (s : Int) : ByteArray × Int := if v.down then (⟨#[]⟩, 20) else if s < 0 ∨ v.sectors ≤ s then (⟨#[]⟩, 2) else ((lastW v.pend s).getD (vDur v s), 0)

set_option maxRecDepth 100000 in
theorem read_e (w : World) (b mb : Nat) (pv : Value) (v : Vol) (s : Int) (h : VolAt w b mb pv v) (hno : vCheck v s ≠ 0) :
    Calls Try.prog 53 #[.pointer (some ⟨b, 0, none⟩), .int .i64 s] w fun e w' => e = .returned (.tuple #[.string ⟨#[]⟩, .int .i64 (vCheck v s)]) ∧ Keep [] w w' := by
  have hck := fun w1 (hk : Keep [] w w1) => check_c w1 b mb pv v s (h.keep hk (by simp) (by simp) (by simp))
  have hne : (vCheck v s != 0) = true := by rw [bne_iff_ne]; exact hno
  have Hck := Lib.hid hck
  clear hck h hno
  generalize vCheck v s = ck at *
  go_enter Try.func53, Try.ntmps53
  go_wp2_with (go_at_call 71; refine (Hck.out _ ((((Keep.refl [] w).allocPast _).allocPast _).allocPast _)).mono ?_; rintro e w' ⟨rfl, rfl⟩)
  go_returns
  exact ⟨rfl, (((Keep.refl [] w).allocPast _).allocPast _).allocPast _⟩
theorem read_n (w : World) (s : Int) :
    Calls Try.prog 53 #[.pointer none, .int .i64 s] w fun e w' => e = .returned (.tuple #[.string ⟨#[]⟩, .int .i64 1]) ∧ Keep [] w w' := by
  go_enter Try.func53, Try.ntmps53
  go_wp2_with (go_at_call 71; refine (check_n _ _).mono ?_; rintro e w' ⟨rfl, rfl⟩)
  go_returns
  exact ⟨rfl, (((Keep.refl [] w).allocPast _).allocPast _).allocPast _⟩

theorem lastW_bwds (p : IS) (s : Int) : ∀ k, k ≤ p.length → (∀ x ∈ bwds p k, x.2.1 ≠ s) → lastW p s = ((p.take (p.length - k)).reverse.find? fun x => x.1 == s).map (·.2)
  | 0, _, _ => by simp [lastW]
  | k + 1, hk, h => by
    rw [lastW_bwds p s k (by omega) (fun x hx => h x (by rw [bwds_succ]; exact List.mem_append_left _ hx))]
    obtain ⟨j, hj⟩ : ∃ j, p.length - k = j + 1 := ⟨p.length - k - 1, by omega⟩
    have hjl : j < p.length := by omega
    rw [show p.length - (k + 1) = j from by omega, hj, List.take_succ_eq_append_getElem hjl, List.reverse_append]
    have hx := h (bwd p k) (by rw [bwds_succ]; simp)
    unfold bwd at hx
    rw [show p.length - 1 - k = j from by omega, List.getElem?_eq_getElem hjl] at hx
    simp only [Option.getD_some] at hx
    have : ((p[j]).1 == s) = false := by rw [beq_eq_false_iff_ne]; exact hx
    simp [List.find?_cons, this]
theorem lastW_none (p : IS) (s : Int) (h : ∀ x ∈ bwds p p.length, x.2.1 ≠ s) : lastW p s = none := by
  rw [lastW_bwds p s _ (Nat.le_refl _) h]; simp
theorem lastW_some (p : IS) (k : Nat) (hk : k < p.length) (s : Int) (h : ∀ x ∈ bwds p k, x.2.1 ≠ s) (hx : (bwd p k).2.1 = s) : lastW p s = some (bwd p k).2.2 := by
  rw [lastW_bwds p s k (by omega) h]
  obtain ⟨j, hj⟩ : ∃ j, p.length - k = j + 1 := ⟨p.length - k - 1, by omega⟩
  have hjl : j < p.length := by omega
  rw [hj, List.take_succ_eq_append_getElem hjl, List.reverse_append]
  unfold bwd at hx ⊢
  rw [show p.length - 1 - k = j from by omega, List.getElem?_eq_getElem hjl] at hx ⊢
  simp only [Option.getD_some] at hx ⊢
  simp [List.find?_cons, hx]

theorem cells_own {β : Type} (Bx : Nat) (o : Obj) (ho : o.isCells = true) : Own (fun (_ : β) W => W.heap[Bx]? = some o) := fun s X Y row hs hg hr =>
  (hg.block Bx (lt_of_heap hs) (fun e => by obtain ⟨o', h1, h2⟩ := hr Bx e.symm; rw [hs] at h1; cases h1; rw [ho] at h2; cases h2)).trans hs
set_option maxRecDepth 100000 in
set_option maxHeartbeats 2000000 in
theorem read_ok (w : World) (b mb : Nat) (pv : Value) (v : Vol) (s : Int) (h : VolAt w b mb pv v) (hck : vCheck v s = 0) (h0 : 0 ≤ s) (h1 : s < v.sectors) (hlen : v.pend.length ≤ 4096) :
    CallsIn Fence.wide 4 Try.prog 53 #[.pointer (some ⟨b, 0, none⟩), .int .i64 s] w fun e w' => e = .returned (.tuple #[.string ((lastW v.pend s).getD (vDur v s)), .int .i64 0]) ∧ Below w.heap.size w w' := by
  have hck1 := fun w1 (hk : Keep [] w w1) => check_c w1 b mb pv v s (h.keep hk (by simp) (by simp) (by simp))
  rw [hck] at hck1
  have Hck := Lib.hid hck1
  obtain ⟨po, pc, hpv, hI⟩ : ∃ po pc, pv = .slice po v.pend.length pc ∧ ((pv = .slice none 0 0 ∧ v.pend = []) ∨ ∃ g cap, pv = .slice (some ⟨g, 0, none⟩) v.pend.length cap ∧ g < w.heap.size ∧ ∀ j (h : j < v.pend.length), w.cell? ⟨g, j * 2, none⟩ = some (.int .i64 (v.pend[j]).1) ∧ w.cell? ⟨g, j * 2 + 1, none⟩ = some (.string (v.pend[j]).2)) := by
    rcases h.slice with ⟨hv, hp⟩ | ⟨g, cap, hv⟩
    · exact ⟨none, 0, by rw [hv, hp]; rfl, .inl ⟨hv, hp⟩⟩
    · subst hv
      exact ⟨_, cap, rfl, .inr ⟨g, cap, rfl, (h.pend.lt g rfl).2, fun j hj => h.elem rfl j hj⟩⟩
  have hbl := lt_of_heap h.blk
  have hbl1 : b < w.heap.size + 1 := by omega
  have hbl2 : b < w.heap.size + 1 + 1 := by omega
  have hc := cell_of h.blk
  simp only [vcells, hpv] at hc
  have H := Lib.hid h
  have HI := Lib.hid hI
  have Hpv := Lib.hid hpv
  have Hb := Lib.hid (And.intro h0 h1)
  clear hck hck1 h hI hpv h0 h1
  generalize hres : (lastW v.pend s).getD (vDur v s) = res
  have Hres := Lib.hid hres
  clear hres
  refine callsIn_of_wp_marks Try.func53 rfl trivial ?_ rfl
  simp only [Try.ntmps53, List.size_toArray, List.length_cons, List.length_nil, Nat.reduceAdd, Nat.reduceSub, Array.replicate_succ, Array.replicate_zero, List.push_toArray, List.append_toArray, List.nil_append, List.cons_append]
  gi_wp2_with (first | (refine ⟨trivial, ?_⟩; gi_at_call 71; refine (callsIn_wide.2 (Hck.out _ ((((Keep.refl [] w).allocPast _).allocPast _).allocPast _))).mono ?_; rintro e w' ⟨rfl, rfl⟩) | (refine ⟨trivial, ?_⟩; gi_at_call 72; refine (backward_in _ _ _ _).mono ?_; rintro e w' ⟨rfl, rfl⟩))
  obtain ⟨W0, hW0⟩ : ∃ W0, (((w.alloc (Obj.cells #[Value.int IntKind.i64 s] 3)).alloc (Obj.cells #[Value.string { data := #[] }] 9)).alloc (Obj.cells #[Value.int IntKind.i64 0] 28)).alloc (Obj.cells #[Value.slice po v.pend.length pc] 86) = W0 := ⟨_, rfl⟩
  have hsz : W0.heap.size = w.heap.size + 4 := by rw [← hW0]; simp
  have hk0 : Keep [] w W0 := by rw [← hW0]; exact ((((Keep.refl [] w).allocPast _).allocPast _).allocPast _).allocPast _
  have hb0 := hk0.below0
  have c3 : Boxed W0 w.heap.size 3 (.int .i64 s) := by rw [← hW0]; exact (((Boxed.new w _ _).alloc _).alloc _).alloc _
  have c4 : Boxed W0 (w.heap.size + 1) 9 (.string ⟨#[]⟩) := by
    rw [← hW0]; have := Boxed.new (w.alloc (Obj.cells #[Value.int IntKind.i64 s] 3)) 9 (.string ⟨#[]⟩); simp only [World.size_alloc] at this; exact (this.alloc _).alloc _
  have c5 : Boxed W0 (w.heap.size + 2) 28 (.int .i64 0) := by
    rw [← hW0]; have := Boxed.new ((w.alloc (Obj.cells #[Value.int IntKind.i64 s] 3)).alloc (Obj.cells #[Value.string { data := #[] }] 9)) 28 (.int .i64 0); simp only [World.size_alloc] at this; exact this.alloc _
  have c6 : W0.cell? ⟨w.heap.size + 3, 0, none⟩ = some (Value.slice po v.pend.length pc) := by
    rw [← hW0]; have := (Boxed.new (((w.alloc (Obj.cells #[Value.int IntKind.i64 s] 3)).alloc (Obj.cells #[Value.string { data := #[] }] 9)).alloc (Obj.cells #[Value.int IntKind.i64 0] 28)) 86 (Value.slice po v.pend.length pc)).cell; simpa using this
  rw [hW0]
  have hIW : (Value.slice po v.pend.length pc = .slice none 0 0 ∧ v.pend = []) ∨ ∃ g cap, Value.slice po v.pend.length pc = .slice (some ⟨g, 0, none⟩) v.pend.length cap ∧ g < W0.heap.size ∧ ∀ j (h : j < v.pend.length), W0.cell? ⟨g, j * 2, none⟩ = some (.int .i64 (v.pend[j]).1) ∧ W0.cell? ⟨g, j * 2 + 1, none⟩ = some (.string (v.pend[j]).2) := by
    rw [← Hpv.out]
    rcases HI.out with h | ⟨g, cap, h1, h2, h3⟩
    · exact .inl h
    · exact .inr ⟨g, cap, h1, by omega, fun j hj => ⟨Below.cellAt hb0 (h3 j hj).1, Below.cellAt hb0 (h3 j hj).2⟩⟩
  have hB : ∀ {x : Nat}, w.heap.size ≤ W0.heap.size := by intro; omega
  refine wpIn_rangeFunc_ownH (F := Fence.wide) (n := 4) rfl (by omega) (gf := 78) (lb := #[.pointer (some ⟨w.heap.size + 3, 0, none⟩)]) rfl trivial (enters_of Try.func78 (by kernel_rfl) rfl)
    (backward_stops (w.heap.size + 3) W0.heap.size (.slice po v.pend.length pc) v.pend hlen W0 (by omega) (Nat.le_refl _) c6 hIW) belowK_t (belowK_b (Nat.le_refl _)) (Below.refl _ _) (fun _ => rfl)
    (fun pre W => ((∀ x ∈ pre, x.2.1 ≠ s) ∧ Boxed W w.heap.size 3 (.int .i64 s) ∧ Boxed W (w.heap.size + 1) 9 (.string ⟨#[]⟩) ∧ Boxed W (w.heap.size + 2) 28 (.int .i64 0)) ∧ Below w.heap.size w W ∧ Below W0.heap.size W0 W)
    (fun c pre W => (c = .ret ∧ (∀ y ∈ pre.dropLast, y.2.1 ≠ s) ∧ (pre.getLast?.map (·.2.1)) = some s ∧ Boxed W (w.heap.size + 1) 9 (.string ((pre.getLast?.map (·.2.2)).getD ⟨#[]⟩)) ∧ Boxed W (w.heap.size + 2) 28 (.int .i64 0)) ∧ Below w.heap.size w W)
    (OwnFrom.and (OwnFrom.and (ownFrom_pure _ _) (OwnFrom.and ((boxed_own _ _ _).from _) (OwnFrom.and ((boxed_own _ _ _).from _) ((boxed_own _ _ _).from _)))) (OwnFrom.and (ownFrom_below (Nat.le_refl _) (by omega)) (ownFrom_below (Nat.le_refl _) (Nat.le_refl _))))
    (fun c => OwnFrom.and (OwnFrom.and (ownFrom_pure _ _) (OwnFrom.and (ownFrom_pure _ _) (OwnFrom.and (ownFrom_pure _ _) (OwnFrom.and ((boxed_own _ _ (fun pre : List Wr => Value.string ((pre.getLast?.map (·.2.2)).getD ⟨#[]⟩))).from _) ((boxed_own _ _ _).from _))))) (ownFrom_below (Nat.le_refl _) (by omega)))
    ⟨⟨by simp, c3, c4, c5⟩, hb0, Below.refl _ _⟩
    (fun x a' W => ∃ Bx, W0.heap.size ≤ Bx ∧ W.heap[Bx]? = some (.cells #[.int .i64 x.2.1, .string x.2.2] 105 (0, 0)) ∧ a' = { tmps := #[.pointer (some ⟨b, 0, none⟩), .int .i64 s, undef, .pointer (some ⟨w.heap.size, 0, none⟩), .pointer (some ⟨w.heap.size + 1, 0, none⟩), .pointer (some ⟨w.heap.size + 1 + 1, 0, none⟩), .int .i64 0, undef, .pointer (some ⟨Bx, 0, none⟩), .pointer (some ⟨b, 0, none⟩), .int .i64 s, .int .i64 0, .int .i64 0, .bool false, undef, .pointer (some ⟨b, 0, none⟩), .pointer (some ⟨b, 0, none⟩), .pointer (some ⟨b, 2, none⟩), .slice po v.pend.length pc, .func (.func 78) #[] #[.pointer (some ⟨w.heap.size + 3, 0, none⟩)], .int .i64 x.1, .agg #[.int .i64 x.2.1, .string x.2.2], undef, undef, undef, undef, undef, undef, undef, undef, undef, undef, undef], defers := [] })
    (fun x a' _ A B row hs hg hr => by
      obtain ⟨Bx, h1, h2, h3⟩ := hs
      exact ⟨Bx, h1, ((cells_own (β := Unit) Bx _ rfl).from _) () A B row h2 hg hr, h3⟩)
    ?assign ?body ?done ?stop
  case assign =>
    rintro l pre x W K ⟨⟨i1, i2, i3, i4⟩, i5, i6⟩ hK
    gi_wp2
    exact hK _ _ ((KeepsOthers.alloc _ _).from _) ((Below.refl _ W).alloc i6.size _) ⟨⟨i1, i2.alloc _, i3.alloc _, i4.alloc _⟩, i5.alloc i5.size _, i6.alloc i6.size _⟩ ⟨W.heap.size, i6.size, World.alloc_heap_new W _, rfl⟩
  case body =>
    rintro l pre x a' W hl hr ⟨⟨i1, i2, i3, i4⟩, i5, i6⟩ ⟨Bx, hBx, hx, rfl⟩ hlt
    obtain ⟨xi, xs, xd⟩ := x
    dsimp only at hx ⊢
    have d0 := cell_of hx
    have d1 := i2.cell
    have d2 := i3.cell
    have d3 := i3.frozen
    have d4 := i4.cell
    have d5 := i4.frozen
    have I1 := Lib.hid i1
    have HX := Lib.hid hx
    have I3 := Lib.hid i3
    have I4 := Lib.hid i4
    have I2 := Lib.hid i2
    have hne : w.heap.size + 1 ≠ w.heap.size + 2 := by omega
    clear i1 i2 i3 i4 hx
    by_cases hxs : xs = s
    · subst hxs
      gi_wp2
      exact ⟨((KeepsOthers.setCell _ _ _).trans (KeepsOthers.setCell _ _ _)).from _, ⟨rfl, by simpa using I1.out, by simp, by simpa using (I3.out.set (.string xd)).other (B' := w.heap.size + 1 + 1) (by omega) (.int .i64 0), ((show Boxed W (w.heap.size + 1 + 1) _ _ from I4.out).other (B' := w.heap.size + 1) (by omega) (.string xd)).set (.int .i64 0)⟩, (i5.setCell (p := ⟨w.heap.size + 1, 0, none⟩) (by simp) _).setCell (p := ⟨w.heap.size + 1 + 1, 0, none⟩) (by simp; omega) _⟩
    · have hxs' : (xs == s) = false := by rw [beq_eq_false_iff_ne]; exact hxs
      gi_wp2
      exact ⟨(KeepsOthers.refl _).from _, Below.refl _ _, ⟨fun y hy => (List.mem_append.1 hy).elim (I1.out y) (fun e => by simp at e; subst e; exact hxs), I2.out, I3.out, I4.out⟩, i5, i6⟩
  case done =>
    rintro D ys W hD hys ⟨⟨i1, i2, i3, i4⟩, i5, i6⟩ hK
    subst hys
    have hnone := lastW_none v.pend s i1
    have hr : vDur v s = res := by rw [← Hres.out, hnone]; rfl
    have Hr := Lib.hid hr
    clear hr
    have d1 := i2.cell
    have I3 := Lib.hid i3
    have I4 := Lib.hid i4
    have HK := Lib.hid hK
    clear i1 hnone i2 i3 i4 hK
    gi_wp2_with (refine ⟨trivial, ?_⟩; gi_at_call 60; refine (callsIn_wide.2 (durable_c _ b mb pv v s (H.out.keep (Keep.of_below (F := []) i5) (by simp) (by simp) (by simp)) Hb.out.1 Hb.out.2)).mono ?_)
    rintro e w1 ⟨rfl, hk1⟩
    have hlt1 := hk1.size
    have I3' : Boxed w1 (w.heap.size + 1) 9 (.string ⟨#[]⟩) := hk1.heap I3.out (by simp)
    have I4' : Boxed w1 (w.heap.size + 1 + 1) 28 (.int .i64 0) := hk1.heap (show Boxed W (w.heap.size + 1 + 1) _ _ from I4.out) (by simp)
    have HK' : w1.heap[D]? = some (.deferred (some [])) := hk1.heap HK.out (by simp)
    have d2 := I3'.cell
    have d3 := I3'.frozen
    have d4 := I4'.cell
    have d5 := I4'.frozen
    have J3 := Lib.hid I3'
    have J4 := Lib.hid I4'
    have HK2 := Lib.hid HK'
    clear I3' I4' HK'
    gi_wp2
    obtain ⟨W2, hW2⟩ : ∃ W2, (w1.setCell ⟨w.heap.size + 1, 0, none⟩ (.string (vDur v s))).setCell ⟨w.heap.size + 1 + 1, 0, none⟩ (.int .i64 0) = W2 := ⟨_, rfl⟩
    rw [hW2]
    have k3 : Boxed W2 (w.heap.size + 1) 9 (.string (vDur v s)) := by rw [← hW2]; exact (J3.out.set (.string (vDur v s))).other (by omega) _
    have k4 : Boxed W2 (w.heap.size + 1 + 1) 28 (.int .i64 0) := by rw [← hW2]; exact (J4.out.other (by omega) _).set _
    have kD : W2.heap[D]? = some (.deferred (some [])) := by rw [← hW2]; exact ((KeepsOthers.setCell _ _ _).trans (KeepsOthers.setCell _ _ _)).same D _ HK2.out rfl
    have kb : Below w.heap.size w W2 := by
      rw [← hW2]; exact (((i5.trans (hk1.below (by simp) i5.size))).setCell (p := ⟨w.heap.size + 1, 0, none⟩) (by simp) _).setCell (p := ⟨w.heap.size + 1 + 1, 0, none⟩) (by simp; omega) _
    refine ⟨by simp, .inl ⟨_, _, rfl, run_takeDeferred kD, ?_⟩⟩
    have m3 := (k3.kept (grownBy_putObj' W2 D (.deferred none)) (by intro e; cases e; rw [k3] at kD; cases kD)).cell
    have m4 := (k4.kept (grownBy_putObj' W2 D (.deferred none)) (by intro e; cases e; rw [k4] at kD; cases kD)).cell
    refine ⟨.tuple #[.string (vDur v s), .int .i64 0], ?_, by rw [Hr.out], kb.trans (belowK_b (w := w) (Nat.le_refl _) W2 D _ _ (by omega) kD rfl rfl)⟩
    simp [results, Try.f53, go_sem, m3, m4]
  case stop =>
    rintro D c pre W hD ⟨k, hk, rfl⟩ ⟨⟨rfl, i1, i2, i3, i4⟩, i5⟩ hK
    obtain ⟨k, rfl⟩ : ∃ k', k = k' + 1 := by
      cases k with
      | zero => simp [bwds] at i2
      | succ k => exact ⟨k, rfl⟩
    rw [bwds_succ] at i1 i2 i3
    simp only [List.dropLast_concat, List.getLast?_append, List.getLast?_singleton, Option.some_or, Option.map_some, Option.some.injEq, Option.getD_some] at i1 i2 i3
    have hl := lastW_some v.pend k (by omega) s i1 i2
    have Hr : Hid ((bwd v.pend k).2.2 = res) := by show _ = _; rw [← Hres.out, hl]; rfl
    gi_wp2
    refine ⟨by simp, .inl ⟨_, _, rfl, run_takeDeferred hK, ?_⟩⟩
    have m3 := (i3.kept (grownBy_putObj' W D (.deferred none)) (by intro e; cases e; rw [i3] at hK; cases hK)).cell
    have m4 := ((show Boxed W (w.heap.size + 1 + 1) _ _ from i4).kept (grownBy_putObj' W D (.deferred none)) (by intro e; cases e; rw [show W.heap[w.heap.size + 1 + 1]? = _ from i4] at hK; cases hK)).cell
    refine ⟨.tuple #[.string (bwd v.pend k).2.2, .int .i64 0], ?_, by rw [Hr.out], i5.trans (belowK_b (w := w) (Nat.le_refl _) W D _ _ (by omega) hK rfl rfl)⟩
    simp [results, Try.f53, go_sem, m3, m4]
theorem read_c (w : World) (b mb : Nat) (pv : Value) (v : Vol) (s : Int) (h : VolAt w b mb pv v) (hlen : v.pend.length ≤ 4096) :
    Calls Try.prog 53 #[.pointer (some ⟨b, 0, none⟩), .int .i64 s] w fun e w' => e = .returned (.tuple #[.string (vRead v s).1, .int .i64 (vRead v s).2]) ∧ Keep [] w w' := by
  by_cases hk : vCheck v s = 0
  · have hr : v.down = false ∧ 0 ≤ s ∧ s < v.sectors := by
      unfold vCheck at hk
      by_cases hd : v.down = true
      · rw [if_pos hd] at hk; simp at hk
      · by_cases hr : s < 0 ∨ v.sectors ≤ s
        · rw [if_neg hd, if_pos hr] at hk; simp at hk
        · exact ⟨by simpa using hd, by omega, by omega⟩
    have hv : vRead v s = ((lastW v.pend s).getD (vDur v s), 0) := by unfold vRead; rw [if_neg (by simp [hr.1]), if_neg (by omega)]
    rw [hv]
    exact (callsIn_wide.1 (read_ok w b mb pv v s h hk hr.2.1 hr.2.2 hlen)).mono fun e w' h => ⟨h.1, Keep.of_below h.2⟩
  · have hv : vRead v s = (⟨#[]⟩, vCheck v s) := by
      unfold vCheck at hk
      unfold vRead vCheck
      by_cases hd : v.down = true
      · rw [if_pos hd, if_pos hd]
      · by_cases hr : s < 0 ∨ v.sectors ≤ s
        · rw [if_neg hd, if_neg hd, if_pos hr, if_pos hr]
        · rw [if_neg hd, if_neg hr] at hk; exact absurd rfl hk
    rw [hv]
    exact read_e w b mb pv v s h hk
end Go.Proofs.Ytgmggmpkbfljfaa
