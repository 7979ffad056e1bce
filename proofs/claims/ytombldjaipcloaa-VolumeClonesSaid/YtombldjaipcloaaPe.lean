/- Pending of the device beside what is the call's own. -/
import Derived.Test.YtombldjaipcloaaQ
set_option linter.unusedVariables false
set_option linter.unusedSimpArgs false
namespace Go.Proofs.Ytombldjaipcloaa
open Go.RowKit
/-- A row of ints of the call's own. -/
def IntH (o : Value) (zs : List Int) : HP := fun w F => w.ownsRow 0 3 1 o zs.length (zs.map (Value.int .i64)) ∧ F = o.ownBlock.toList
theorem intH_stab (o : Value) (zs : List Int) : Stab (IntH o zs) where
  keep := by
    rintro w w' F G ⟨h, rfl⟩ hk hd
    exact ⟨own_keep h hk (fun g hg => hd g (by simp [hg])), rfl⟩
  lt := by
    rintro w F ⟨h, rfl⟩ x hx
    obtain ⟨cur, h1⟩ := own_ty h (g := x) (by simpa using hx)
    exact lt_of_heap h1
theorem ownsRow_base0 {w : World} {base : Nat} {e : TypeId} {size : Nat} {v : Value} {n : Nat} {xs : List Value} (h : w.ownsRow base e size v n xs) : w.ownsRow 0 e size v n xs := by
  refine ⟨h.1, ?_⟩
  rcases h.2 with h | ⟨g, cap, cur, hv, hb, rest⟩
  · exact .inl h
  · exact .inr ⟨g, cap, cur, hv, Nat.zero_le _, rest⟩
theorem ownsRow_ge {w : World} {base : Nat} {e : TypeId} {size : Nat} {v : Value} {n : Nat} {xs : List Value} (h : w.ownsRow base e size v n xs) : ∀ x ∈ v.ownBlock.toList, base ≤ x := by
  intro x hx
  rcases h.2 with ⟨h, _⟩ | ⟨g, cap, cur, hv, hb, rest⟩
  · rw [h] at hx; cases hx
  · rw [hv] at hx; simp [Value.ownBlock] at hx; omega
theorem pending_o {w0 w : World} {b mb : Nat} {v : Vol} {R : HP} (hR : Stab R) (ho : Own0 w0 (Sep (VolH b mb v) R) w) (hlen : v.pend.length ≤ 4096) :
    Calls Try.prog 30 #[.pointer (some ⟨b, 0, none⟩)] w fun e w' => ∃ po pc, e = .returned (.slice po v.pend.length pc) ∧ Own0 w0 (Sep (Sep (VolH b mb v) R) (IntH (.slice po v.pend.length pc) (v.pend.map (·.1)))) w' := by
  have ho' := ho
  obtain ⟨F, ⟨F1, F2, ⟨pv, hv, _⟩, _⟩, _⟩ := ho'
  refine (pending_c w b mb pv v hv hlen).mono ?_
  rintro e w' ⟨⟨o, rfl, hrow⟩, hk⟩
  rw [List.length_map] at hrow
  obtain ⟨po, pc, rfl⟩ := own_form (ownsRow_base0 hrow)
  exact ⟨po, pc, rfl, ho.new ((volH_stab _ _ _).sep hR) hk (G := (Value.slice po v.pend.length pc).ownBlock.toList) ⟨by rw [List.length_map]; exact ownsRow_base0 hrow, rfl⟩ (ownsRow_ge hrow)⟩
end Go.Proofs.Ytombldjaipcloaa
