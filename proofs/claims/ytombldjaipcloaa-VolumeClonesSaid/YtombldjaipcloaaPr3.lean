/- Read, and all operations together. -/
import Derived.Test.YtombldjaipcloaaPr2
set_option linter.unusedVariables false
set_option linter.unusedSimpArgs false
namespace Go.Proofs.Ytombldjaipcloaa
open Go.RowKit


set_option maxRecDepth 100000 in
set_option maxHeartbeats 2000000 in
theorem perr_read (R : HP) (hR : Stab R) (w0 w : World) (b mb db : Nat) (v : Vol) (d : Dk) (kd s dat : Int) (so : Option Addr) (sl sc : Nat) (hc : CorrN v d) (hkd : 0 ≤ kd ∧ kd ≤ 255) (hs : -32768 ≤ s ∧ s ≤ 32767) (hdat : 0 ≤ dat ∧ dat ≤ 255) (hl : d.dur.length ≤ 65536) (hl2 : v.pend.length ≤ 4096)
    (ho : Own0 w0 (Sep (Sep (VolH b mb v) (DkH db d)) R) w) (hk : kd % 10 = 9) : Calls Try.prog 20 #[.pointer (some ⟨b, 0, none⟩), .pointer (some ⟨db, 0, none⟩), .agg #[.int .u8 kd, .int .i16 s, .int .u8 dat, .slice so sl sc]] w fun e w' => e = .returned (.bool true) ∧ PerfR w0 R b mb db (v.pend.length + 1) d.dur.length w' := by
  have hA := ((volH_stab b mb v).sep (dkH_stab db d)).sep hR
  have Hbox := Lib.hid (ho.addBox hA #[.int .u8 kd, .int .i16 s, .int .u8 dat, .slice so sl sc] 38)
  clear ho
  obtain ⟨hkd1, hkd2⟩ := hkd
  obtain ⟨hs1, hs2⟩ := hs
  have hws : IntKind.i64.wrap s = s := IntWalk.i64_in _ ⟨by omega, by omega⟩
  have HC := Lib.hid hc
  have W1 := Lib.hid (read_m b mb v s hl2)
  have Hl3 : Hid (d.pend.length ≤ 4096) := by rw [hc.pend]; exact hl2
  have Hl := Lib.hid hl
  have t0 : (kd % 10 == 0) = false := by rw [beq_eq_false_iff_ne]; omega
  have t1 : (kd % 10 == 1) = false := by rw [beq_eq_false_iff_ne]; omega
  have t2 : (kd % 10 == 2) = false := by rw [beq_eq_false_iff_ne]; omega
  have t3 : (kd % 10 == 3) = false := by rw [beq_eq_false_iff_ne]; omega
  have t4 : (kd % 10 == 4) = false := by rw [beq_eq_false_iff_ne]; omega
  have t5 : (kd % 10 == 5) = false := by rw [beq_eq_false_iff_ne]; omega
  have t6 : (kd % 10 == 6) = false := by rw [beq_eq_false_iff_ne]; omega
  have t7 : (kd % 10 == 7) = false := by rw [beq_eq_false_iff_ne]; omega
  have t8 : (kd % 10 == 8) = false := by rw [beq_eq_false_iff_ne]; omega
  by_cases hdn : d.down = true
  · have hr : vRead v s = (⟨#[]⟩, 20) := by unfold vRead; rw [if_pos (by rw [← hc.down]; exact hdn)]
    rw [hr] at W1
    clear hA hc hl hl2 hdat hk hr
    go_enter Try.func20, Try.ntmps20
    go_wp2_with fail
    refine (((W1.out.L (dkH_stab db d)).L hR).L (boxH_stab _ _ _) |>.own Hbox.out).mono ?_
    rintro e w6 ⟨rfl, ho6⟩
    obtain ⟨dv, pv, hd⟩ := own0_dkR ho6
    obtain ⟨po, pc, rfl⟩ := own_form hd.dur
    have hc6 := cell_of hd.blk
    simp only [dcells, hdn] at hc6
    have Hd := Lib.hid hd
    have Ho6 := Lib.hid ho6
    clear ho6 hd
    clear Hd
    go_wp2_with fail
    go_returns
    exact ⟨by simp, v, d, HC.out, Nat.le_succ _, rfl, Ho6.out.drop⟩
  · have hdn : d.down = false := by simpa using hdn
    have hvd : ¬ v.down = true := by rw [← hc.down, hdn]; simp
    by_cases hs0 : s < 0
    · have hr : vRead v s = (⟨#[]⟩, 2) := by unfold vRead; rw [if_neg hvd, if_pos (.inl hs0)]
      rw [hr] at W1
      clear hA hc hl hl2 hdat hk hr hvd
      go_enter Try.func20, Try.ntmps20
      go_wp2_with fail
      refine (((W1.out.L (dkH_stab db d)).L hR).L (boxH_stab _ _ _) |>.own Hbox.out).mono ?_
      rintro e w6 ⟨rfl, ho6⟩
      obtain ⟨dv, pv, hd⟩ := own0_dkR ho6
      obtain ⟨po, pc, rfl⟩ := own_form hd.dur
      have hc6 := cell_of hd.blk
      simp only [dcells, hdn] at hc6
      have Hd := Lib.hid hd
      have Ho6 := Lib.hid ho6
      clear ho6 hd
      clear Hd
      go_wp2_with fail
      go_returns
      exact ⟨by simp, v, d, HC.out, Nat.le_succ _, rfl, Ho6.out.drop⟩
    · have hs0' : decide (s < 0) = false := by simpa using hs0
      by_cases hs9 : (d.dur.length : Int) ≤ s
      · have hr : vRead v s = (⟨#[]⟩, 2) := by unfold vRead; rw [if_neg hvd, if_pos (.inr (by rw [hc.len]; exact hs9))]
        rw [hr] at W1
        clear hA hc hl hl2 hdat hk hr hvd
        go_enter Try.func20, Try.ntmps20
        go_wp2_with fail
        refine (((W1.out.L (dkH_stab db d)).L hR).L (boxH_stab _ _ _) |>.own Hbox.out).mono ?_
        rintro e w6 ⟨rfl, ho6⟩
        obtain ⟨dv, pv, hd⟩ := own0_dkR ho6
        obtain ⟨po, pc, rfl⟩ := own_form hd.dur
        have hc6 := cell_of hd.blk
        simp only [dcells, hdn] at hc6
        have Hd := Lib.hid hd
        have Ho6 := Lib.hid ho6
        clear ho6 hd
        clear Hd
        go_wp2_with fail
        go_returns
        exact ⟨by simp, v, d, HC.out, Nat.le_succ _, rfl, Ho6.out.drop⟩
      · obtain ⟨m, rfl⟩ : ∃ m : Nat, s = m := ⟨s.toNat, by omega⟩
        have hm : m < d.dur.length := by omega
        have hr : vRead v m = (dCont d m, 0) := by unfold vRead; rw [if_neg hvd, if_neg (by rw [hc.len]; omega), corr_read hc.toCorr m hm]
        rw [hr] at W1
        have Hm := Lib.hid hm
        have hle : decide ((d.dur.length : Int) ≤ m) = false := by simpa using hs9
        clear hA hc hl hl2 hdat hk hr hvd hm hs9
        go_enter Try.func20, Try.ntmps20
        go_wp2_with fail
        refine (((W1.out.L (dkH_stab db d)).L hR).L (boxH_stab _ _ _) |>.own Hbox.out).mono ?_
        rintro e w6 ⟨rfl, ho6⟩
        obtain ⟨dv, pv, hd⟩ := own0_dkR ho6
        obtain ⟨po, pc, rfl⟩ := own_form hd.dur
        have hc6 := cell_of hd.blk
        simp only [dcells, hdn] at hc6
        have Hd := Lib.hid hd
        have Ho6 := Lib.hid ho6
        clear ho6 hd
        have hcd := content_c w6 db _ pv d m Hm.out Hl3.out Hl.out Hd.out
        generalize dCont d m = x at *
        have Hcd := Lib.hid hcd
        clear hcd Hd
        have hxx : (x.toList == x.toList) = true := beq_self_eq_true _
        have hmn : (m : Int) < d.dur.length := by have := Hm.out; omega
        go_wp2_with (go_at_call 23; refine Hcd.out.mono ?_; rintro e w' ⟨rfl, rfl⟩)
        go_returns
        exact ⟨by simp, v, d, HC.out, Nat.le_succ _, rfl, Ho6.out.drop⟩
theorem PerfR.mono {w0 : World} {R : HP} {b mb db N M n : Nat} {w : World} (h : PerfR w0 R b mb db N n w) (hm : N ≤ M) : PerfR w0 R b mb db M n w := by
  obtain ⟨v, d, h1, h2, h3, h4⟩ := h; exact ⟨v, d, h1, by omega, h3, h4⟩
theorem performR_c (R : HP) (hR : Stab R) (w0 w : World) (b mb db N n : Nat) (o : OpV) (so : Option Addr) (sl sc : Nat) (hsc : o.scr = .slice so sl sc) (hok : o.ok w0) (hN : N ≤ 4096) (hn : n ≤ 65536) (h : PerfR w0 R b mb db N n w) :
    Calls Try.prog 20 #[.pointer (some ⟨b, 0, none⟩), .pointer (some ⟨db, 0, none⟩), .agg #[.int .u8 o.kind, .int .i16 o.sec, .int .u8 o.dat, .slice so sl sc]] w fun e w' => e = .returned (.bool true) ∧ PerfR w0 R b mb db (N + 1) n w' := by
  obtain ⟨v, d, hc, h2, h3, ho⟩ := h
  have hl : d.dur.length ≤ 65536 := by omega
  have hl2 : v.pend.length ≤ 4096 := by omega
  have hk := hok.kind
  have fin : ∀ {e : Ending} {w' : World}, e = .returned (.bool true) ∧ PerfR w0 R b mb db (v.pend.length + 1) d.dur.length w' → e = .returned (.bool true) ∧ PerfR w0 R b mb db (N + 1) n w' := by
    rintro e w' ⟨h1, h⟩; rw [h3] at h; exact ⟨h1, h.mono (by omega)⟩
  have hz := hok.scr
  have hcap := hok.cap so sl sc hsc
  rw [hsc] at hz
  rcases (by omega : (o.kind % 10 = 0 ∨ o.kind % 10 = 1 ∨ o.kind % 10 = 2 ∨ o.kind % 10 = 3) ∨ (o.kind % 10 = 4 ∨ o.kind % 10 = 5) ∨ o.kind % 10 = 6 ∨ o.kind % 10 = 7 ∨ o.kind % 10 = 8 ∨ o.kind % 10 = 9) with k | k | k | k | k | k
  · exact (perr_write R hR w0 w b mb db v d o.kind o.sec o.dat so sl sc hc hk hok.sec hok.dat hl hl2 ho k).mono fun e w' h => fin h
  · exact (perr_barrier R hR w0 w b mb db v d o.kind o.sec o.dat so sl sc hc hk hok.sec hok.dat hl hl2 ho k).mono fun e w' h => fin h
  · exact (perr_limit R hR w0 w b mb db v d o.kind o.sec o.dat so sl sc hc hk hok.sec hok.dat hl hl2 ho k).mono fun e w' h => fin h
  · exact (perr_crash R hR w0 w b mb db v d o.kind o.sec o.dat so sl sc hc hk hok.sec hok.dat hl hl2 ho k).mono fun e w' h => fin h
  · exact (perr_start R hR w0 w b mb db v d o.kind o.sec o.dat so sl sc hc hk hok.sec hok.dat hl hl2 ho o.zs hz hcap hok.len k).mono fun e w' h => fin h
  · exact (perr_read R hR w0 w b mb db v d o.kind o.sec o.dat so sl sc hc hk hok.sec hok.dat hl hl2 ho k).mono fun e w' h => fin h
end Go.Proofs.Ytombldjaipcloaa
