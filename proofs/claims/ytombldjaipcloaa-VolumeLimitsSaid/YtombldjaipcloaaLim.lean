/- A device with a limit beside one without: the plain law. -/
import Derived.Test.YtombldjaipcloaaD
set_option linter.unusedVariables false
set_option linter.unusedSimpArgs false
namespace Go.Proofs.Ytombldjaipcloaa
open Go.RowKit

def lim (u : Vol) (left : Int) : Vol := { u with limited := true, left := left }
def Up (u : Vol) : Prop := u.limited = false ∧ u.down = false
theorem vKeep_lim (u : Vol) (left : Int) (s : Int) (d : ByteArray) : vKeep (lim u left) s d = lim (vKeep u s d) left := by
  unfold vKeep; split <;> rfl
theorem vFlush_lim (l : IS) : ∀ (u : Vol) (left : Int), vFlush (lim u left) l = lim (vFlush u l) left := by
  induction l with
  | nil => intro u left; rfl
  | cons p l ih => intro u left; show vFlush (vKeep (lim u left) p.1 p.2) l = _; rw [vKeep_lim, ih]; rfl
theorem vOp_free' {v : Vol} (h : v.limited = false) : vOp v = (false, v) := by unfold vOp; rw [if_neg (by rw [h]; exact Bool.false_ne_true)]
theorem vOp_lim0 (u : Vol) : vOp (lim u 0) = (true, { lim u 0 with down := true }) := by
  unfold vOp; rw [if_pos (show (lim u 0).limited = true from rfl), if_pos (show (lim u 0).left ≤ 0 from Int.le_refl 0)]
theorem vOp_lim (u : Vol) (left : Int) (h : 0 < left) (h2 : left ≤ 40) : vOp (lim u left) = (false, lim u (left - 1)) := by
  unfold vOp; rw [if_pos (show (lim u left).limited = true from rfl), if_neg (show ¬ (lim u left).left ≤ 0 from by show ¬ left ≤ 0; omega)]
  show (false, ({ lim u left with left := wrap64 (left - 1) } : Vol)) = _
  rw [IntWalk.wrap64_in (left - 1) ⟨by omega, by omega⟩]; rfl
/-- What one step of both does. -/
structure LimStep (u : Vol) (left : Int) (a : Int) (v' : Vol) (b : Int) (u' : Vol) : Prop where
  up : Up u'
  pend : u'.pend.length ≤ u.pend.length + 1
  bad : b ≠ 0 → a = b ∧ v' = lim u' left
  done : b = 0 → left = 0 → a = 20 ∧ v'.down = true ∧ v'.pend.length ≤ u.pend.length + 1
  go : b = 0 → 0 < left → a = 0 ∧ v' = lim u' (left - 1)
theorem lim_barrier (u : Vol) (left : Int) (h : Up u) (h0 : 0 ≤ left) (h1 : left ≤ 40) : LimStep u left (vBarrier (lim u left)).1 (vBarrier (lim u left)).2 (vBarrier u).1 (vBarrier u).2 := by
  have hu : vBarrier u = (0, { vFlush u u.pend with pend := [], barriers := wrap64 (u.barriers + 1) }) := by
    unfold vBarrier; rw [if_neg (by rw [h.2]; exact Bool.false_ne_true), vOp_free' h.1]; rfl
  rw [hu]
  have hk : ∀ (l : IS) (u : Vol), (vFlush u l).limited = u.limited ∧ (vFlush u l).down = u.down := by
    intro l
    induction l with
    | nil => intro u; exact ⟨rfl, rfl⟩
    | cons p l ih =>
      intro u
      have h1 := ih (vKeep u p.1 p.2)
      have h2 : (vKeep u p.1 p.2).limited = u.limited ∧ (vKeep u p.1 p.2).down = u.down := by unfold vKeep; split <;> exact ⟨rfl, rfl⟩
      exact ⟨h1.1.trans h2.1, h1.2.trans h2.2⟩
  have hup : Up { vFlush u u.pend with pend := [], barriers := wrap64 (u.barriers + 1) } := ⟨(hk u.pend u).1.trans h.1, (hk u.pend u).2.trans h.2⟩
  by_cases hl : left = 0
  · subst hl
    have hv : vBarrier (lim u 0) = (20, { lim u 0 with down := true }) := by
      unfold vBarrier; rw [if_neg (show ¬ (lim u 0).down = true from by show ¬ u.down = true; rw [h.2]; exact Bool.false_ne_true), vOp_lim0]; rfl
    rw [hv]
    exact ⟨hup, Nat.zero_le _, fun h => absurd rfl h, fun _ _ => ⟨rfl, rfl, Nat.le_succ _⟩, fun _ h => by omega⟩
  · have hv : vBarrier (lim u left) = (0, lim { vFlush u u.pend with pend := [], barriers := wrap64 (u.barriers + 1) } (left - 1)) := by
      unfold vBarrier; rw [if_neg (show ¬ (lim u left).down = true from by show ¬ u.down = true; rw [h.2]; exact Bool.false_ne_true), vOp_lim u left (by omega) h1]
      show (0, ({ vFlush (lim u (left - 1)) u.pend with pend := [], barriers := _ } : Vol)) = _
      rw [vFlush_lim]; rfl
    rw [hv]
    exact ⟨hup, Nat.zero_le _, fun h => absurd rfl h, fun _ h => absurd h hl, fun _ _ => ⟨rfl, rfl⟩⟩
theorem lim_write (u : Vol) (left : Int) (s : Int) (d : ByteArray) (h : Up u) (h0 : 0 ≤ left) (h1 : left ≤ 40) : LimStep u left (vWrite (lim u left) s d).1 (vWrite (lim u left) s d).2 (vWrite u s d).1 (vWrite u s d).2 := by
  have hd : ¬ u.down = true := by rw [h.2]; exact Bool.false_ne_true
  have hd' : ¬ (lim u left).down = true := hd
  unfold vWrite
  rw [if_neg hd, if_neg hd']
  by_cases hr : s < 0 ∨ u.sectors ≤ s
  · rw [if_pos hr, if_pos (show s < 0 ∨ (lim u left).sectors ≤ s from hr)]
    exact ⟨h, Nat.le_succ _, fun _ => ⟨rfl, rfl⟩, (fun h => by simp at h), (fun h => by simp at h)⟩
  · rw [if_neg hr, if_neg (show ¬ (s < 0 ∨ (lim u left).sectors ≤ s) from hr)]
    by_cases hz : d.size ≠ 128
    · rw [if_pos hz, if_pos hz]
      exact ⟨h, Nat.le_succ _, fun _ => ⟨rfl, rfl⟩, (fun h => by simp at h), (fun h => by simp at h)⟩
    · rw [if_neg hz, if_neg hz]
      by_cases hf : 4096 ≤ u.pend.length
      · rw [if_pos hf, if_pos (show 4096 ≤ (lim u left).pend.length from hf)]
        exact ⟨h, Nat.le_succ _, fun _ => ⟨rfl, rfl⟩, (fun h => by simp at h), (fun h => by simp at h)⟩
      · rw [if_neg hf, if_neg (show ¬ 4096 ≤ (lim u left).pend.length from hf)]
        have e1 : vOp { u with pend := u.pend ++ [(s, d)] } = (false, { u with pend := u.pend ++ [(s, d)] }) := vOp_free' h.1
        have hp : (u.pend ++ [(s, d)]).length = u.pend.length + 1 := by simp
        by_cases hl : left = 0
        · subst hl
          have e2 : vOp { lim u 0 with pend := (lim u 0).pend ++ [(s, d)] } = (true, { lim { u with pend := u.pend ++ [(s, d)] } 0 with down := true }) := vOp_lim0 { u with pend := u.pend ++ [(s, d)] }
          simp only [e1, e2, Bool.false_eq_true, if_false, if_true]
          exact ⟨h, Nat.le_of_eq hp, fun h => absurd rfl h, fun _ _ => ⟨rfl, rfl, Nat.le_of_eq hp⟩, fun _ h => by omega⟩
        · have e2 : vOp { lim u left with pend := (lim u left).pend ++ [(s, d)] } = (false, lim { u with pend := u.pend ++ [(s, d)] } (left - 1)) := vOp_lim { u with pend := u.pend ++ [(s, d)] } left (by omega) h1
          simp only [e1, e2, Bool.false_eq_true, if_false]
          exact ⟨h, Nat.le_of_eq hp, fun h => absurd rfl h, fun _ h => absurd h hl, fun _ _ => ⟨rfl, rfl⟩⟩
theorem barrier_down {v : Vol} (h : v.down = true) : vBarrier v = (20, v) := by unfold vBarrier; rw [if_pos h]
end Go.Proofs.Ytombldjaipcloaa
