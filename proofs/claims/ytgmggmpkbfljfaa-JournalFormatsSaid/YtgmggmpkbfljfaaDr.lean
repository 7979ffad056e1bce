/- Drop. -/
import Derived.Test.YtgmggmpkbfljfaaGr
set_option linter.unusedVariables false
set_option linter.unusedSimpArgs false
set_option maxRecDepth 100000
namespace Go.Proofs.Ytgmggmpkbfljfaa
open Go.RowKit
structure DR where
  e : Int
  v : Vol
  j : Jn
def dropPg (J : Jn) (c : Nat) : Pg := ⟨J.pg.g + 1, J.pg.f + c, J.pg.p + usedN (J.groups.take c), J.pg.k - usedN (J.groups.take c)⟩
def jDrop (v : Vol) (J : Jn) (n : Int) : DR :=
  if J.broken then ⟨18, v, J⟩ else
  if (J.pg.f : Int) + J.groups.length - 1 < n then ⟨2, v, J⟩ else
  if n < J.pg.f then ⟨0, v, J⟩ else
  if (jW v (dropPg J (n - J.pg.f + 1).toNat)).1 ≠ 0 then ⟨(jW v (dropPg J (n - J.pg.f + 1).toNat)).1, (jW v (dropPg J (n - J.pg.f + 1).toNat)).2, { J with broken := (jW v (dropPg J (n - J.pg.f + 1).toNat)).1 == 20 }⟩ else
  ⟨0, (jW v (dropPg J (n - J.pg.f + 1).toNat)).2, ⟨dropPg J (n - J.pg.f + 1).toNat, J.groups.drop (n - J.pg.f + 1).toNat, J.pend, false⟩⟩
/-- The journal's rows, of which the first are let go. -/
theorem JS.dropped {jb vb : Nat} {p : Pg} {br : Bool} {gv pv : Value} {G : GL} {gv' pv' : Value} {G' : GL} {l : List ByteArray} {w : World} {F : List Nat} (h : JS jb vb p br gv pv G gv' pv' G' l w F) (c : Nat) :
    To (JS jb vb p br gv pv (G.drop c) gv' pv' G' l) F w w := by
  refine To.right (boxH_stab _ _ _) h fun _ h => To.right (ownH_stab _ _ _ _ _) h fun _ h => To.right (ownH_stab _ _ _ _ _) h fun F hF => ?_
  refine ⟨(G.drop c).flatMap fun x => rowF x.1, ⟨fun x hx => hF.1 x (List.mem_of_mem_drop hx), rfl⟩, Keep.refl _ _, fun x hx => .inl ?_⟩
  rw [hF.2]
  obtain ⟨y, hy, hx⟩ := List.mem_flatMap.1 hx
  exact List.mem_flatMap.2 ⟨y, List.mem_of_mem_drop hy, hx⟩
theorem gcells_drop (G : GL) (c : Nat) : gcells (G.drop c) = (gcells G).drop (c * 2) := by
  induction c generalizing G with
  | zero => simp
  | succ c ih =>
    cases G with
    | nil => simp [gcells]
    | cons x G =>
      have e : gcells (x :: G) = x.1 :: .int .i64 (secsN x.2) :: gcells G := rfl
      rw [List.drop_succ_cons, ih, e, show (c + 1) * 2 = c * 2 + 1 + 1 by omega]
      simp
set_option maxHeartbeats 8000000 in
theorem drop_small (jb vb mb : Nat) (v : Vol) (J : Jn) (n : Int) (hJ : JFit J) (hno : J.broken = true ∨ (J.pg.f : Int) + J.groups.length - 1 < n ∨ n < J.pg.f) (w : World) (F : List Nat) (h : JH jb vb J w F) :
    Calls Try.prog 31 #[.pointer (some ⟨jb, 0, none⟩), .int .i64 n] w fun e w' => e = .returned (.int .i64 (jDrop v J n).e) ∧ Keep [] w w' := by
  obtain ⟨gv, pv, G, hG, hS⟩ := h
  obtain ⟨⟨pg, pf, pp, pk⟩, groups, pend, broken⟩ := J
  obtain ⟨fg, ff, fp, fk, fn, fl, fs⟩ := hJ
  unfold jDrop
  dsimp only at fg ff fp fk fn fl fs hG hS hno ⊢
  subst hG
  rw [List.length_map] at fn hno
  rw [List.length_map]
  obtain ⟨go, gc, rfl⟩ := own_form hS.grp
  have HSt := Lib.hid (state_c w jb vb ⟨pg, pf, pp, pk⟩ _ pv broken hS.box)
  have HLa := Lib.hid (last_c w jb vb ⟨pg, pf, pp, pk⟩ _ G.length gc pv broken hS.box (by dsimp only; omega) (by omega))
  have Hbx := Lib.hid hS.box
  clear hS fs
  cases broken with
  | true =>
    clear hno
    go_enter Try.func31, Try.ntmps31
    go_wp2_with fail
    refine HSt.out.mono ?_
    rintro e w1 ⟨rfl, hw⟩
    have hj0 : jState true = 18 := rfl
    rw [hj0]
    dsimp only
    subst hw
    go_wp2_with fail
    go_ret
    exact ⟨rfl, Keep.refl _ _⟩
  | false =>
    by_cases h1 : (pf : Int) + G.length - 1 < n
    · clear hno
      go_enter Try.func31, Try.ntmps31
      go_wp2_with fail
      refine HSt.out.mono ?_
      rintro e w1 ⟨rfl, hw⟩
      have hj0 : jState false = 0 := rfl
      rw [hj0]
      dsimp only
      subst hw
      go_wp2_with fail
      refine HLa.out.mono ?_
      rintro e w3 ⟨rfl, hk3⟩
      dsimp only
      have Hk3 := Lib.hid hk3
      clear hk3
      go_wp2_with fail
      go_ret
      exact ⟨by simp [h1], Hk3.out⟩
    · have h2 : n < pf := by
        rcases hno with h | h | h
        · cases h
        · exact absurd h h1
        · exact h
      have h3 : n ≤ (pf : Int) + G.length - 1 := by omega
      clear hno
      go_enter Try.func31, Try.ntmps31
      go_wp2_with fail
      refine HSt.out.mono ?_
      rintro e w1 ⟨rfl, hw⟩
      have hj0 : jState false = 0 := rfl
      rw [hj0]
      dsimp only
      subst hw
      go_wp2_with fail
      refine HLa.out.mono ?_
      rintro e w3 ⟨rfl, hk3⟩
      dsimp only
      have Hk3 := Lib.hid hk3
      have HFi := Lib.hid (first_c w3 jb vb ⟨pg, pf, pp, pk⟩ _ pv false (hk3.heap Hbx.out (by simp)))
      clear hk3
      go_wp2_with fail
      refine HFi.out.mono ?_
      rintro e w4 ⟨rfl, hw⟩
      dsimp only
      subst hw
      go_wp2_with fail
      go_ret
      exact ⟨by simp [h1, h2], Hk3.out⟩
end Go.Proofs.Ytgmggmpkbfljfaa
