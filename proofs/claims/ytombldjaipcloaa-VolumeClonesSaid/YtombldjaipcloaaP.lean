/- Start at a device that is up, and Pending. -/
import Derived.Test.YtombldjaipcloaaX
set_option linter.unusedVariables false
set_option linter.unusedSimpArgs false
namespace Go.Proofs.Ytombldjaipcloaa
open Go.RowKit

theorem start_up (w : World) (b mb : Nat) (pv sv : Value) (v : Vol) (h : VolAt w b mb pv v) (hd : v.down = false) :
    Calls Try.prog 22 #[.pointer (some ⟨b, 0, none⟩), sv] w fun e w' => e = .returned (.tuple #[]) ∧ w = w' := by
  have hc := cell_of h.blk
  simp only [vcells, hd] at hc
  clear h hd
  go_enter Try.func22, Try.ntmps22
  go_wp2
  go_returns
  exact ⟨rfl, rfl⟩
theorem start_n (w : World) (sv : Value) : Calls Try.prog 22 #[.pointer none, sv] w fun e w' => e = .returned (.tuple #[]) ∧ w = w' := by
  go_enter Try.func22, Try.ntmps22
  go_wp2
  go_returns
  exact ⟨rfl, rfl⟩
theorem start_c (w : World) (b mb : Nat) (pv : Value) (v : Vol) (sv : Value) (zs : List Nat) (h : VolAt w b mb pv v) (hr : ∀ p ∈ v.pend, 0 ≤ p.1 ∧ p.1 < v.sectors) (hz : ByteRow w sv zs) (hzl : zs.length ≤ 140737488355328) (hlen : v.pend.length ≤ 4096) :
    Calls Try.prog 22 #[.pointer (some ⟨b, 0, none⟩), sv] w fun e w' => e = .returned (.tuple #[]) ∧ VolTo w b mb pv (vStart v zs) w' := by
  cases hd : v.down
  · refine (start_up w b mb pv sv v h hd).mono ?_
    rintro e w' ⟨rfl, rfl⟩
    exact ⟨rfl, by unfold vStart; rw [hd]; exact h.here⟩
  · exact start_ok w b mb pv v sv zs h hd hr hz hzl hlen

theorem own_succ {W : World} {base : Nat} {e : TypeId} {size : Nat} {v : Value} {k : Nat} {xs : List Value} (h : W.ownsRow base e size v (k + 1) xs) : ∃ g cap, v = .slice (some ⟨g, 0, none⟩) (k + 1) cap := by
  rcases h.2 with ⟨_, h0⟩ | ⟨g, cap, cur, hv, _⟩
  · omega
  · exact ⟨g, cap, hv⟩
theorem infoI : (Try.prog.info? 3).map (fun i => (i.zero, i.size, i.bytes)) = some (some (.int .i64 0), 1, 8) := by kernel_rfl
/-- A slice of ints of the call's own. -/
def IntsAt (w w' : World) (xs : List Int) (e : Ending) : Prop := ∃ v, e = .returned v ∧ w'.ownsRow w.heap.size 3 1 v xs.length (xs.map (Value.int .i64))
set_option maxRecDepth 100000 in
theorem pending_c (w : World) (b mb : Nat) (pv : Value) (v : Vol) (h : VolAt w b mb pv v) (hlen : v.pend.length ≤ 4096) :
    Calls Try.prog 30 #[.pointer (some ⟨b, 0, none⟩)] w fun e w' => IntsAt w w' (v.pend.map (·.1)) e ∧ Keep [] w w' := by
  have hc := cell_of h.blk
  simp only [vcells] at hc
  have H := Lib.hid h
  rcases h.slice with ⟨rfl, hp⟩ | ⟨g, cap, rfl⟩
  · rw [hp]
    clear h hp
    go_enter Try.func30, Try.ntmps30
    go_wp2_with fail
    refine wp_loop_rounds 1 ?_
    rw [rounds_succ]
    go_wp2_with fail
    go_returns
    exact ⟨⟨_, rfl, World.ownsRow_nil _ _ _ _⟩, Keep.refl _ _⟩
  · clear h
    obtain ⟨i0, hi, hz0, hz1, hz2⟩ := info_parts infoI
    have Hi := Lib.hid (And.intro hi (And.intro hz0 (And.intro hz1 hz2)))
    clear hi hz0 hz1 hz2
    go_enter Try.func30, Try.ntmps30
    go_wp2_with fail
    go_loopw [3, 13] (fun o i wr => ∃ k : Nat, k ≤ v.pend.length ∧ i = .int .i64 k ∧ wr.ownsRow w.heap.size 3 1 o k ((v.pend.map fun p => Value.int .i64 p.1).take k) ∧ Keep [] w wr) (fun _ i _ => v.pend.length - (intOf i).toNat)
    case atStart => exact ⟨0, by omega, rfl, World.ownsRow_nil _ _ _ _, Keep.refl _ _⟩
    case round =>
      obtain ⟨k, hk, rfl, hrow, hkp⟩ := hrel
      have hszw := hkp.size
      by_cases hlt : k < v.pend.length
      · obtain ⟨e1, e2⟩ := (H.out.keep hkp (by simp) (by simp) (by simp)).elem rfl k hlt
        have Hs : Hid ((v.pend.map fun p => Value.int .i64 p.1).take (k + 1) = (v.pend.map fun p => Value.int .i64 p.1).take k ++ [.int .i64 (v.pend[k]).1]) := by
          show _ = _
          rw [List.take_succ_eq_append_getElem (by simpa using hlt), List.getElem_map]
        generalize v.pend[k] = p at *
        obtain ⟨ps, pd⟩ := p
        dsimp only at e1 e2 Hs
        have Hrow := Lib.hid hrow
        have Hkp := Lib.hid hkp
        clear hrow hkp
        go_wp2_with (at_builtin; refine wpList_append_own _ rfl _ _ 53 rfl w.heap.size 3 i0 _ 1 8 Try.underlying53 Hi.out.1 Hi.out.2.1 Hi.out.2.2.1 Hi.out.2.2.2 rfl (by decide) _ _ _ rfl ((Hrow.out.alloc _).alloc _) ⟨wr.heap.size + 1, 0, none⟩ 1 1 [.int .i64 ps] rfl rfl ?c1 ?c2 ?c3 ?c4 ?c5 ?_)
        case c1 =>
          intro j u hj
          match j, hj with
          | 0, hj => simp at hj; subst hj; simp [Addr.add, go_sem]
        case c2 => intro u hu; simp at hu; subst hu; rfl
        case c3 => unfold maxLen; omega
        case c4 => omega
        case c5 => simp; omega
        intro v' w1 ho hg _
        rw [← Hs.out] at ho
        obtain ⟨g', cap', rfl⟩ := own_succ ho
        have Hk2 : Hid (Keep [] w w1) := ((Hkp.out.allocPast _).allocPast _).grownPast hg (fun g' hg' => (Hrow.out.lt g' hg').1)
        have Ho := Lib.hid ho
        clear ho hg
        go_wp2_with fail
        go_roundw
        case rel => exact ⟨k + 1, by omega, by go_num, Ho.out, Hk2.out⟩
        case measure => simp [intOf]; omega
      · obtain rfl : k = v.pend.length := by omega
        rw [List.take_of_length_le (by simp)] at hrow
        have Hrow := Lib.hid hrow
        have Hkp := Lib.hid hkp
        clear hrow hkp
        go_wp2_with fail
        go_returns
        exact ⟨⟨_, rfl, by rw [List.length_map, List.map_map]; exact Hrow.out⟩, Hkp.out⟩
end Go.Proofs.Ytombldjaipcloaa
