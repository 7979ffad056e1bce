/- The other operations on a device and on its model. -/
import Derived.Test.YtombldjaipcloaaPerf
set_option linter.unusedVariables false
set_option linter.unusedSimpArgs false
namespace Go.Proofs.Ytombldjaipcloaa
open Go.RowKit

set_option maxRecDepth 100000 in
set_option maxHeartbeats 4000000 in
theorem perf_barrier (w0 w : World) (b mb db : Nat) (v : Vol) (d : Dk) (kd s dat : Int) (so : Option Addr) (sl sc : Nat) (hc : Corr v d) (hkd : 0 ≤ kd ∧ kd ≤ 255) (hs : -32768 ≤ s ∧ s ≤ 32767) (hdat : 0 ≤ dat ∧ dat ≤ 255) (hl : d.dur.length ≤ 65536) (hl2 : v.pend.length ≤ 4096)
    (ho : Own0 w0 (Sep (VolH b mb v) (DkH db d)) w) (hk : kd % 10 = 4 ∨ kd % 10 = 5) : Calls Try.prog 20 #[.pointer (some ⟨b, 0, none⟩), .pointer (some ⟨db, 0, none⟩), .agg #[.int .u8 kd, .int .i16 s, .int .u8 dat, .slice so sl sc]] w fun e w' => e = .returned (.bool true) ∧ Perf w0 b mb db (v.pend.length + 1) d.dur.length w' := by
  have hA := (volH_stab b mb v).sep (dkH_stab db d)
  have Hbox := Lib.hid (ho.addBox hA #[.int .u8 kd, .int .i16 s, .int .u8 dat, .slice so sl sc] 38)
  clear ho
  obtain ⟨hkd1, hkd2⟩ := hkd
  obtain ⟨hs1, hs2⟩ := hs
  have hws : IntKind.i64.wrap s = s := IntWalk.i64_in _ ⟨by omega, by omega⟩
  obtain ⟨hw1, hw2, hw3, hw4⟩ := corr_barrier hc
  have W1 := Lib.hid (barrier_m b mb v hl2)
  have W2 := Lib.hid (dbarrier_m db d hl (by rw [hc.pend]; exact hl2))
  generalize vBarrier v = rv at *
  generalize dBarrier d = rd at *
  obtain ⟨a, v'⟩ := rv
  obtain ⟨a', d'⟩ := rd
  dsimp only at hw1 hw2 hw3 hw4 W1 W2
  subst hw1
  have HC := Lib.hid hw2
  have HN : Hid (v'.pend.length ≤ v.pend.length + 1) := Nat.le_succ_of_le hw3
  have HL := Lib.hid hw4
  clear hw2 hw3 hw4 hA hc hl hl2 hdat
  have t0 : (kd % 10 == 0) = false := by rw [beq_eq_false_iff_ne]; omega
  have t1 : (kd % 10 == 1) = false := by rw [beq_eq_false_iff_ne]; omega
  have t2 : (kd % 10 == 2) = false := by rw [beq_eq_false_iff_ne]; omega
  have t3 : (kd % 10 == 3) = false := by rw [beq_eq_false_iff_ne]; omega
  rcases hk with hk | hk
  · have t4 : (kd % 10 == 4) = true := by rw [beq_iff_eq]; exact hk
    clear hk
    go_enter Try.func20, Try.ntmps20
    go_wp2_with fail
    refine ((W1.out.L (dkH_stab db d)).L (boxH_stab _ _ _) |>.own Hbox.out).mono ?_
    rintro e w6 ⟨rfl, ho6⟩
    have Ho6 := Lib.hid ho6
    clear ho6
    go_wp2_with fail
    refine ((W2.out.R (volH_stab b mb v')).L (boxH_stab _ _ _) |>.own Ho6.out).mono ?_
    rintro e w7 ⟨rfl, ho7⟩
    have Ho7 := Lib.hid ho7
    clear ho7
    go_wp2_with fail
    go_returns
    exact ⟨by simp, v', d', HC.out, HN.out, HL.out, Ho7.out.drop⟩
  · have t4 : (kd % 10 == 4) = false := by rw [beq_eq_false_iff_ne]; omega
    have t5 : (kd % 10 == 5) = true := by rw [beq_iff_eq]; exact hk
    clear hk
    go_enter Try.func20, Try.ntmps20
    go_wp2_with fail
    refine ((W1.out.L (dkH_stab db d)).L (boxH_stab _ _ _) |>.own Hbox.out).mono ?_
    rintro e w6 ⟨rfl, ho6⟩
    have Ho6 := Lib.hid ho6
    clear ho6
    go_wp2_with fail
    refine ((W2.out.R (volH_stab b mb v')).L (boxH_stab _ _ _) |>.own Ho6.out).mono ?_
    rintro e w7 ⟨rfl, ho7⟩
    have Ho7 := Lib.hid ho7
    clear ho7
    go_wp2_with fail
    go_returns
    exact ⟨by simp, v', d', HC.out, HN.out, HL.out, Ho7.out.drop⟩
theorem own0_dk {w0 w : World} {A C : HP} {db : Nat} {d : Dk} (h : Own0 w0 (Sep (Sep A (DkH db d)) C) w) : ∃ dv pv, DkAt w db dv pv d := by
  obtain ⟨F, ⟨F1, F2, ⟨F3, F4, _, ⟨dv, pv, hd, _⟩, _⟩, _⟩, _⟩ := h
  exact ⟨dv, pv, hd⟩
theorem dk_fields {w0 w w' : World} {A C : HP} {db : Nat} {d d' : Dk} (hA : Stab A) (hC : Stab C) (h : Own0 w0 (Sep (Sep A (DkH db d)) C) w) (hs : ∀ dv pv, DkAt w db dv pv d → DkAt w' db dv pv d') (hk : Keep [db] w w') : Own0 w0 (Sep (Sep A (DkH db d')) C) w' :=
  h.step fun F hF => To.left hC hF fun F1 h1 => To.right hA h1 fun F2 h2 => by
    obtain ⟨dv, pv, hd, rfl⟩ := h2
    exact (hs dv pv hd).to hk
set_option maxRecDepth 100000 in
set_option maxHeartbeats 4000000 in
theorem perf_limit (w0 w : World) (b mb db : Nat) (v : Vol) (d : Dk) (kd s dat : Int) (so : Option Addr) (sl sc : Nat) (hc : Corr v d) (hkd : 0 ≤ kd ∧ kd ≤ 255) (hs : -32768 ≤ s ∧ s ≤ 32767) (hdat : 0 ≤ dat ∧ dat ≤ 255) (hl : d.dur.length ≤ 65536) (hl2 : v.pend.length ≤ 4096)
    (ho : Own0 w0 (Sep (VolH b mb v) (DkH db d)) w) (hk : kd % 10 = 6) : Calls Try.prog 20 #[.pointer (some ⟨b, 0, none⟩), .pointer (some ⟨db, 0, none⟩), .agg #[.int .u8 kd, .int .i16 s, .int .u8 dat, .slice so sl sc]] w fun e w' => e = .returned (.bool true) ∧ Perf w0 b mb db (v.pend.length + 1) d.dur.length w' := by
  have hA := (volH_stab b mb v).sep (dkH_stab db d)
  have Hbox := Lib.hid (ho.addBox hA #[.int .u8 kd, .int .i16 s, .int .u8 dat, .slice so sl sc] 38)
  clear ho
  obtain ⟨hkd1, hkd2⟩ := hkd
  obtain ⟨hs1, hs2⟩ := hs
  have hws : IntKind.i64.wrap s = s := IntWalk.i64_in _ ⟨by omega, by omega⟩
  have HC := Lib.hid (corr_limit hc s)
  have W1 := Lib.hid (limit_m b mb v s)
  clear hA hc hl hl2 hdat
  have t0 : (kd % 10 == 0) = false := by rw [beq_eq_false_iff_ne]; omega
  have t1 : (kd % 10 == 1) = false := by rw [beq_eq_false_iff_ne]; omega
  have t2 : (kd % 10 == 2) = false := by rw [beq_eq_false_iff_ne]; omega
  have t3 : (kd % 10 == 3) = false := by rw [beq_eq_false_iff_ne]; omega
  have t4 : (kd % 10 == 4) = false := by rw [beq_eq_false_iff_ne]; omega
  have t5 : (kd % 10 == 5) = false := by rw [beq_eq_false_iff_ne]; omega
  have t6 : (kd % 10 == 6) = true := by rw [beq_iff_eq]; exact hk
  clear hk
  go_enter Try.func20, Try.ntmps20
  go_wp2_with fail
  refine ((W1.out.L (dkH_stab db d)).L (boxH_stab _ _ _) |>.own Hbox.out).mono ?_
  rintro e w6 ⟨rfl, ho6⟩
  obtain ⟨dv, pv, hd⟩ := own0_dk ho6
  have hc6 := cell_of hd.blk
  have hf6 := frozen_of hd.blk
  simp only [dcells] at hc6
  have Ho6 := Lib.hid ho6
  clear ho6 hd
  go_wp2_with fail
  go_returns
  refine ⟨rfl, _, _, HC.out, Nat.le_succ _, rfl, Own0.drop (dk_fields (volH_stab _ _ _) (boxH_stab _ _ _) Ho6.out (fun dv pv h => ?_) ((Keep.setCell [db] _ _ _ _ (by simp)).trans (Keep.setCell [db] _ _ _ _ (by simp)) (fun x hx => .inl hx)))⟩
  rw [Int.max_comm]
  exact (h.set (d' := { d with limited := true }) 2 (.bool true) rfl rfl rfl).set 4 _ rfl rfl rfl
set_option maxRecDepth 100000 in
set_option maxHeartbeats 4000000 in
theorem perf_crash (w0 w : World) (b mb db : Nat) (v : Vol) (d : Dk) (kd s dat : Int) (so : Option Addr) (sl sc : Nat) (hc : Corr v d) (hkd : 0 ≤ kd ∧ kd ≤ 255) (hs : -32768 ≤ s ∧ s ≤ 32767) (hdat : 0 ≤ dat ∧ dat ≤ 255) (hl : d.dur.length ≤ 65536) (hl2 : v.pend.length ≤ 4096)
    (ho : Own0 w0 (Sep (VolH b mb v) (DkH db d)) w) (hk : kd % 10 = 7) : Calls Try.prog 20 #[.pointer (some ⟨b, 0, none⟩), .pointer (some ⟨db, 0, none⟩), .agg #[.int .u8 kd, .int .i16 s, .int .u8 dat, .slice so sl sc]] w fun e w' => e = .returned (.bool true) ∧ Perf w0 b mb db (v.pend.length + 1) d.dur.length w' := by
  have hA := (volH_stab b mb v).sep (dkH_stab db d)
  have Hbox := Lib.hid (ho.addBox hA #[.int .u8 kd, .int .i16 s, .int .u8 dat, .slice so sl sc] 38)
  clear ho
  obtain ⟨hkd1, hkd2⟩ := hkd
  obtain ⟨hs1, hs2⟩ := hs
  have hws : IntKind.i64.wrap s = s := IntWalk.i64_in _ ⟨by omega, by omega⟩
  have HC := Lib.hid (corr_crash hc)
  have W1 := Lib.hid (crash_m b mb v)
  clear hA hc hl hl2 hdat
  have t0 : (kd % 10 == 0) = false := by rw [beq_eq_false_iff_ne]; omega
  have t1 : (kd % 10 == 1) = false := by rw [beq_eq_false_iff_ne]; omega
  have t2 : (kd % 10 == 2) = false := by rw [beq_eq_false_iff_ne]; omega
  have t3 : (kd % 10 == 3) = false := by rw [beq_eq_false_iff_ne]; omega
  have t4 : (kd % 10 == 4) = false := by rw [beq_eq_false_iff_ne]; omega
  have t5 : (kd % 10 == 5) = false := by rw [beq_eq_false_iff_ne]; omega
  have t6 : (kd % 10 == 6) = false := by rw [beq_eq_false_iff_ne]; omega
  have t7 : (kd % 10 == 7) = true := by rw [beq_iff_eq]; exact hk
  clear hk
  go_enter Try.func20, Try.ntmps20
  go_wp2_with fail
  refine ((W1.out.L (dkH_stab db d)).L (boxH_stab _ _ _) |>.own Hbox.out).mono ?_
  rintro e w6 ⟨rfl, ho6⟩
  obtain ⟨dv, pv, hd⟩ := own0_dk ho6
  have hc6 := cell_of hd.blk
  have hf6 := frozen_of hd.blk
  simp only [dcells] at hc6
  have Ho6 := Lib.hid ho6
  clear ho6 hd
  go_wp2_with fail
  go_returns
  refine ⟨rfl, _, _, HC.out, Nat.le_succ _, rfl, Own0.drop (dk_fields (volH_stab _ _ _) (boxH_stab _ _ _) Ho6.out (fun dv pv h => ?_) (Keep.setCell [db] _ _ _ _ (by simp)))⟩
  exact h.set 3 _ rfl rfl rfl
/-! ### Start -/
set_option maxRecDepth 100000 in
set_option maxHeartbeats 1000000 in
theorem perf_start (w0 w : World) (b mb db : Nat) (v : Vol) (d : Dk) (kd s dat : Int) (so : Option Addr) (sl sc : Nat) (hc : Corr v d) (hkd : 0 ≤ kd ∧ kd ≤ 255) (hs : -32768 ≤ s ∧ s ≤ 32767) (hdat : 0 ≤ dat ∧ dat ≤ 255) (hl : d.dur.length ≤ 65536) (hl2 : v.pend.length ≤ 4096)
    (ho : Own0 w0 (Sep (VolH b mb v) (DkH db d)) w) (zs : List Nat) (hz : ByteRow w0 (.slice so sl sc) zs) (hcap : sl ≤ sc) (hzm : zs.length ≤ maxLen) (hk : kd % 10 = 8) : Calls Try.prog 20 #[.pointer (some ⟨b, 0, none⟩), .pointer (some ⟨db, 0, none⟩), .agg #[.int .u8 kd, .int .i16 s, .int .u8 dat, .slice so sl sc]] w fun e w' => e = .returned (.bool true) ∧ Perf w0 b mb db (v.pend.length + 1) d.dur.length w' := by
  have hA := (volH_stab b mb v).sep (dkH_stab db d)
  have Hbox := Lib.hid (ho.addBox hA #[.int .u8 kd, .int .i16 s, .int .u8 dat, .slice so sl sc] 38)
  clear ho
  obtain ⟨hkd1, hkd2⟩ := hkd
  obtain ⟨hs1, hs2⟩ := hs
  have hws : IntKind.i64.wrap s = s := IntWalk.i64_in _ ⟨by omega, by omega⟩
  unfold maxLen at hzm
  obtain ⟨hw1, hw2, hw3⟩ := corr_start hc (zs.take 50)
  have hzl : sl = zs.length := by
    rcases hz with ⟨a, c, h1, h2⟩ | ⟨sb, so', c, h1, _⟩
    · injection h1 with _ h1 _; rw [h1, h2]; rfl
    · injection h1
  have HC := Lib.hid hw1
  have HN := Lib.hid hw2
  have HL := Lib.hid hw3
  have Hl := Lib.hid hl
  have Hl2 := Lib.hid hl2
  have Hl3 : Hid (d.pend.length ≤ 4096) := by rw [hc.pend]; exact hl2
  have Hpr : Hid (∀ p ∈ v.pend, 0 ≤ p.1 ∧ p.1 < v.sectors) := fun p hp => (hc.psz p hp).2
  have Hpr2 : Hid (∀ p ∈ d.pend, 0 ≤ p.1 ∧ p.1 < d.dur.length) := fun p hp => by rw [← hc.len]; exact (hc.psz p (by rw [← hc.pend]; exact hp)).2
  have t0 : (kd % 10 == 0) = false := by rw [beq_eq_false_iff_ne]; omega
  have t1 : (kd % 10 == 1) = false := by rw [beq_eq_false_iff_ne]; omega
  have t2 : (kd % 10 == 2) = false := by rw [beq_eq_false_iff_ne]; omega
  have t3 : (kd % 10 == 3) = false := by rw [beq_eq_false_iff_ne]; omega
  have t4 : (kd % 10 == 4) = false := by rw [beq_eq_false_iff_ne]; omega
  have t5 : (kd % 10 == 5) = false := by rw [beq_eq_false_iff_ne]; omega
  have t6 : (kd % 10 == 6) = false := by rw [beq_eq_false_iff_ne]; omega
  have t7 : (kd % 10 == 7) = false := by rw [beq_eq_false_iff_ne]; omega
  have t8 : (kd % 10 == 8) = true := by rw [beq_iff_eq]; exact hk
  have hz50 : ByteRow w0 (.slice so (min sl 50) sc) (zs.take 50) := by
    rcases hz with ⟨a, c, h1, h2⟩ | ⟨sb, so', c, h1, h2⟩
    · injection h1 with h0 h1 h3; subst h1; subst h2; subst h0; subst h3; exact .inl ⟨so, sc, by simp, by simp⟩
    · injection h1 with h0 h1 h3; subst h1; subst h0; subst h3
      refine .inr ⟨sb, so', _, by rw [List.length_take, Nat.min_comm], fun i hi => ?_⟩
      have hi2 : i < zs.length := by simp at hi; omega
      have := h2 i hi2
      rw [List.getElem_take]
      exact this
  have Hbr : Hid (∀ {A : HP} (w : World), Own0 w0 A w → ByteRow w (.slice so (min sl 50) sc) (zs.take 50)) := fun {A} w ho => hz50.far ho.below.block
  have Hbf : Hid (∀ {A : HP} (w : World), Own0 w0 A w → ∀ (w' : World) (F : List Nat), Keep F w w' → (∀ x ∈ F, w0.heap.size ≤ x) → ByteRow w' (.slice so (min sl 50) sc) (zs.take 50)) := fun {A} w ho w' F hk hF => hz50.far (fun k hk' => (hk.block k (Nat.lt_of_lt_of_le hk' ho.below.size) (fun hm => by have := hF k hm; omega)).trans (ho.below.block k hk'))
  clear hw1 hw2 hw3 hA hc hl hl2 hdat hk hz hz50
  subst hzl
  have hmn : (min (zs.length : Int) 50).toNat = min zs.length 50 := by omega
  rw [← hmn] at Hbr Hbf
  clear hmn
  have HMv : Hid (∀ {A : HP} (w : World), Own0 w0 A w → MetAt Try.prog 22 #[.pointer (some ⟨b, 0, none⟩), .slice so (min (zs.length : Int) 50).toNat sc] (.tuple #[]) (VolH b mb v) (VolH b mb (vStart v (zs.take 50))) w w0.heap.size) :=
    fun {A} w ho F hF _ => start_m b mb v _ (zs.take 50) Hpr.out (by simp; omega) Hl2.out _ F hF (Hbr.out _ ho)
  have HMd : Hid (∀ {A : HP} (w : World), Own0 w0 A w → MetAt Try.prog 43 #[.pointer (some ⟨db, 0, none⟩), .slice so (min (zs.length : Int) 50).toNat sc] (.tuple #[]) (DkH db d) (DkH db (dStart d (zs.take 50))) w w0.heap.size) :=
    fun {A} w ho F hF hB => by
      obtain ⟨dv, pv, hd, rfl⟩ := hF
      exact dstart_at _ db dv pv d _ (zs.take 50) hd Hpr2.out (fun w' hk => Hbf.out _ ho w' _ hk hB) (by simp; omega) Hl.out Hl3.out
  generalize vStart v (zs.take 50) = v' at *
  generalize dStart d (zs.take 50) = d' at *
  clear Hbr Hbf Hpr Hpr2 Hl Hl2 Hl3
  go_enter Try.func20, Try.ntmps20
  go_wp2_with fail
  refine (((HMv.out _ Hbox.out).L (dkH_stab db d)).L (boxH_stab _ _ _) |>.own Hbox.out).mono ?_
  rintro e w6 ⟨rfl, ho6⟩
  have Ho6 := Lib.hid ho6
  clear ho6
  go_wp2_with fail
  refine (((HMd.out _ Ho6.out).R (volH_stab b mb v')).L (boxH_stab _ _ _) |>.own Ho6.out).mono ?_
  rintro e w7 ⟨rfl, ho7⟩
  have Ho7 := Lib.hid ho7
  clear ho7
  go_wp2_with fail
  go_returns
  exact ⟨rfl, v', d', HC.out, Nat.le_succ_of_le HN.out, HL.out, Ho7.out.drop⟩
end Go.Proofs.Ytombldjaipcloaa
