/- One operation on a device and on its model. -/
import Derived.Test.YtombldjaipcloaaCorr
set_option linter.unusedVariables false
set_option linter.unusedSimpArgs false
namespace Go.Proofs.Ytombldjaipcloaa
open Go.RowKit
/-- A device and its model, both made since w0, that say the same. -/
def Perf (w0 : World) (b mb db N n : Nat) (w : World) : Prop := ∃ v d, Corr v d ∧ v.pend.length ≤ N ∧ d.dur.length = n ∧ Own0 w0 (Sep (VolH b mb v) (DkH db d)) w
theorem own0_drew {w0 w : World} {A : HP} (hA : Stab A) (h : Own0 w0 A w) : Own0 w0 A w.drew := h.keep hA (Keep.drew [] w)
theorem box4 {w : World} {bx : Nat} {c0 c1 c2 c3 : Value} {t : TypeId} (h : w.heap[bx]? = some (.cells #[c0, c1, c2, c3] t (0, 0))) :
    w.cell? ⟨bx, 0, none⟩ = some c0 ∧ w.cell? ⟨bx, 1, none⟩ = some c1 ∧ w.cell? ⟨bx, 2, none⟩ = some c2 ∧ w.cell? ⟨bx, 3, none⟩ = some c3 :=
  ⟨cell_of h 0, cell_of h 1, cell_of h 2, cell_of h 3⟩
/-- A call that turns A to A', at one world, where what A leans on lies beyond B. -/
def MetAt (P : Program) (f : Nat) (args : Array Value) (r : Value) (A A' : HP) (w : World) (B : Nat) : Prop := ∀ F, A w F → (∀ x ∈ F, B ≤ x) → Calls P f args w fun e w' => e = .returned r ∧ To A' F w w'
theorem MetAt.L {P : Program} {f : Nat} {args : Array Value} {r : Value} {A A' R : HP} {w : World} {B : Nat} (h : MetAt P f args r A A' w B) (hR : Stab R) : MetAt P f args r (Sep A R) (Sep A' R) w B := by
  rintro F ⟨F1, F2, h1, h2, h3, rfl⟩ hB
  refine (h F1 h1 (fun x hx => hB x (List.mem_append_left _ hx))).mono fun e w' hk => ⟨hk.1, ?_⟩
  obtain ⟨F1', k1, k2, k3⟩ := hk.2
  have hlt := hR.lt h2
  refine ⟨F1' ++ F2, ⟨F1', F2, k1, hR.keep h2 k2 (fun x hx hx1 => h3 x hx1 hx), fun x hx hx2 => ?_, rfl⟩, k2.mono (fun x hx => List.mem_append_left _ hx), fun x hx => ?_⟩
  · rcases k3 x hx with h | h
    · exact h3 x h hx2
    · have := hlt x hx2; omega
  · rcases List.mem_append.1 hx with h | h
    · rcases k3 x h with h | h
      · exact .inl (List.mem_append_left _ h)
      · exact .inr h
    · exact .inl (List.mem_append_right _ h)
theorem MetAt.R {P : Program} {f : Nat} {args : Array Value} {r : Value} {A A' R : HP} {w : World} {B : Nat} (h : MetAt P f args r A A' w B) (hR : Stab R) : MetAt P f args r (Sep R A) (Sep R A') w B := by
  rintro F ⟨F1, F2, h1, h2, h3, rfl⟩ hB
  refine (h F2 h2 (fun x hx => hB x (List.mem_append_right _ hx))).mono fun e w' hk => ⟨hk.1, ?_⟩
  obtain ⟨F2', k1, k2, k3⟩ := hk.2
  have hlt := hR.lt h1
  refine ⟨F1 ++ F2', ⟨F1, F2', hR.keep h1 k2 h3, k1, fun x hx hx2 => ?_, rfl⟩, k2.mono (fun x hx => List.mem_append_right _ hx), fun x hx => ?_⟩
  · rcases k3 x hx2 with h | h
    · exact h3 x hx h
    · have := hlt x hx; omega
  · rcases List.mem_append.1 hx with h | h
    · exact .inl (List.mem_append_left _ h)
    · rcases k3 x h with h | h
      · exact .inl (List.mem_append_right _ h)
      · exact .inr h
theorem MetAt.own {P : Program} {f : Nat} {args : Array Value} {r : Value} {A A' : HP} {w0 w : World} (h : MetAt P f args r A A' w w0.heap.size) (ho : Own0 w0 A w) : Calls P f args w fun e w' => e = .returned r ∧ Own0 w0 A' w' := by
  obtain ⟨F, h1, h2, h3⟩ := ho
  refine (h F h1 h2).mono fun e w' hk => ⟨hk.1, ?_⟩
  obtain ⟨F', k1, k2, k3⟩ := hk.2
  refine ⟨F', k1, fun x hx => ?_, h3.trans k2 (fun x hx => .inr (h2 x hx))⟩
  have := h3.size
  rcases k3 x hx with h | h
  · exact h2 x h
  · omega
theorem ByteRow.far {w w' : World} {sv : Value} {zs : List Nat} (h : ByteRow w sv zs) (hk : ∀ k, k < w.heap.size → w'.heap[k]? = w.heap[k]?) : ByteRow w' sv zs := by
  rcases h with h | ⟨sb, so, cap, hsv, hc⟩
  · exact .inl h
  · refine .inr ⟨sb, so, cap, hsv, fun i hi => ⟨?_, (hc i hi).2⟩⟩
    rw [← (hc i hi).1]
    exact World.cell?_of_block (hk sb (World.block_lt_of_cell? w _ (hc i hi).1))
set_option maxRecDepth 100000 in
set_option maxHeartbeats 4000000 in
theorem perf_write (w0 w : World) (b mb db : Nat) (v : Vol) (d : Dk) (kd s dat : Int) (so : Option Addr) (sl sc : Nat) (hc : Corr v d) (hkd : 0 ≤ kd ∧ kd ≤ 255) (hs : -32768 ≤ s ∧ s ≤ 32767) (hdat : 0 ≤ dat ∧ dat ≤ 255) (hl : d.dur.length ≤ 65536) (hl2 : v.pend.length ≤ 4096)
    (ho : Own0 w0 (Sep (VolH b mb v) (DkH db d)) w) (hk : kd % 10 = 0 ∨ kd % 10 = 1 ∨ kd % 10 = 2 ∨ kd % 10 = 3) : Calls Try.prog 20 #[.pointer (some ⟨b, 0, none⟩), .pointer (some ⟨db, 0, none⟩), .agg #[.int .u8 kd, .int .i16 s, .int .u8 dat, .slice so sl sc]] w fun e w' => e = .returned (.bool true) ∧ Perf w0 b mb db (v.pend.length + 1) d.dur.length w' := by
  have hA := (volH_stab b mb v).sep (dkH_stab db d)
  have Hbox := Lib.hid (ho.addBox hA #[.int .u8 kd, .int .i16 s, .int .u8 dat, .slice so sl sc] 38)
  clear ho
  obtain ⟨hkd1, hkd2⟩ := hkd
  obtain ⟨hs1, hs2⟩ := hs
  have hws : IntKind.i64.wrap s = s := IntWalk.i64_in _ ⟨by omega, by omega⟩
  obtain ⟨hw1, hw2, hw3, hw4⟩ := corr_write hc s (opData dat)
  have W1 := Lib.hid (write_m b mb v s (opData dat))
  have W2 := Lib.hid (dwrite_m db d s (opData dat) hl (by rw [hc.pend]; exact hl2))
  generalize vWrite v s (opData dat) = rv at *
  generalize dWrite d s (opData dat) = rd at *
  obtain ⟨a, v'⟩ := rv
  obtain ⟨a', d'⟩ := rd
  dsimp only at hw1 hw2 hw3 hw4 W1 W2
  subst hw1
  have HA := Lib.hid hA
  have HA2 := Lib.hid ((volH_stab b mb v').sep (dkH_stab db d))
  have HC := Lib.hid hw2
  have HN := Lib.hid hw3
  have HL := Lib.hid hw4
  have Hdat := Lib.hid hdat
  clear hw2 hw3 hw4 hA hc hl hl2 hdat
  have tok1 : True := trivial
  have tok2 : True := trivial
  have tok3 : True := trivial
  have tok4 : True := trivial
  rcases hk with hk | hk | hk | hk
  · have t0 : (kd % 10 == 0) = true := by rw [beq_iff_eq]; exact hk
    clear hk
    go_enter Try.func20, Try.ntmps20
    go_wp2_with fail
    obtain ⟨bx, hbx⟩ : ∃ bx, w.heap.size = bx := ⟨_, rfl⟩
    have ho5 := Hbox.out
    rw [hbx] at ho5 ⊢
    generalize w.alloc (.cells #[.int .u8 kd, .int .i16 s, .int .u8 dat, .slice so sl sc] 38) = w5 at ho5 ⊢
    have hx5 := box4 ho5.box
    have Ho5 := Lib.hid ho5
    clear ho5 Hbox
    go_region_held3 (fun w' => w'.cell? ⟨bx, 0, none⟩ = some (.int .u8 kd) ∧ w'.cell? ⟨bx, 1, none⟩ = some (.int .i16 s) ∧ w'.cell? ⟨bx, 2, none⟩ = some (.int .u8 dat) ∧ w'.cell? ⟨bx, 3, none⟩ = some (.slice so sl sc)) (exact hx5) ((first
      | (go_at_call 28; have _t := tok1; refine (data_c kd s dat _ so sl sc rfl Hdat.out _).mono ?_; rintro e w6 ⟨rfl, hb6⟩; clear tok1; have Ha6 := Lib.hid (keepOwn (HA.out.sep (boxH_stab _ _ _)) (own0_drew (HA.out.sep (boxH_stab _ _ _)) Ho5.out) hb6); clear hx5 hb6; have hx5 := box4 Ha6.out.box)
      | (go_at_call 27; have _t := tok2; refine ((W1.out.L (dkH_stab db d)).L (boxH_stab _ _ _) |>.own Ha6.out).mono ?_; rintro e w7 ⟨rfl, ho7⟩; clear tok2; have Ha7 := Lib.hid ho7; clear hx5 ho7; have hx5 := box4 Ha7.out.box)
      | (go_at_call 28; have _t := tok3; refine (data_c kd s dat _ so sl sc rfl Hdat.out _).mono ?_; rintro e w8 ⟨rfl, hb8⟩; clear tok3; have Ha8 := Lib.hid (keepOwn (HA2.out.sep (boxH_stab _ _ _)) Ha7.out hb8); clear hx5 hb8; have hx5 := box4 Ha8.out.box)
      | (go_at_call 41; have _t := tok4; refine ((W2.out.R (volH_stab b mb v')).L (boxH_stab _ _ _) |>.own Ha8.out).mono ?_; rintro e w9 ⟨rfl, ho9⟩; clear tok4; have Ho9 := Lib.hid ho9; clear hx5 ho9; have hx5 := box4 Ho9.out.box)))
    clear hx5
    go_wp2_with fail
    go_returns
    exact ⟨by simp, v', d', HC.out, HN.out, HL.out, Ho9.out.drop⟩
  · have t0 : (kd % 10 == 0) = false := by rw [beq_eq_false_iff_ne]; omega
    have t1 : (kd % 10 == 1) = true := by rw [beq_iff_eq]; exact hk
    clear hk
    go_enter Try.func20, Try.ntmps20
    go_wp2_with fail
    obtain ⟨bx, hbx⟩ : ∃ bx, w.heap.size = bx := ⟨_, rfl⟩
    have ho5 := Hbox.out
    rw [hbx] at ho5 ⊢
    generalize w.alloc (.cells #[.int .u8 kd, .int .i16 s, .int .u8 dat, .slice so sl sc] 38) = w5 at ho5 ⊢
    have hx5 := box4 ho5.box
    have Ho5 := Lib.hid ho5
    clear ho5 Hbox
    go_region_held3 (fun w' => w'.cell? ⟨bx, 0, none⟩ = some (.int .u8 kd) ∧ w'.cell? ⟨bx, 1, none⟩ = some (.int .i16 s) ∧ w'.cell? ⟨bx, 2, none⟩ = some (.int .u8 dat) ∧ w'.cell? ⟨bx, 3, none⟩ = some (.slice so sl sc)) (exact hx5) ((first
      | (go_at_call 28; have _t := tok1; refine (data_c kd s dat _ so sl sc rfl Hdat.out _).mono ?_; rintro e w6 ⟨rfl, hb6⟩; clear tok1; have Ha6 := Lib.hid (keepOwn (HA.out.sep (boxH_stab _ _ _)) (own0_drew (HA.out.sep (boxH_stab _ _ _)) Ho5.out) hb6); clear hx5 hb6; have hx5 := box4 Ha6.out.box)
      | (go_at_call 27; have _t := tok2; refine ((W1.out.L (dkH_stab db d)).L (boxH_stab _ _ _) |>.own Ha6.out).mono ?_; rintro e w7 ⟨rfl, ho7⟩; clear tok2; have Ha7 := Lib.hid ho7; clear hx5 ho7; have hx5 := box4 Ha7.out.box)
      | (go_at_call 28; have _t := tok3; refine (data_c kd s dat _ so sl sc rfl Hdat.out _).mono ?_; rintro e w8 ⟨rfl, hb8⟩; clear tok3; have Ha8 := Lib.hid (keepOwn (HA2.out.sep (boxH_stab _ _ _)) Ha7.out hb8); clear hx5 hb8; have hx5 := box4 Ha8.out.box)
      | (go_at_call 41; have _t := tok4; refine ((W2.out.R (volH_stab b mb v')).L (boxH_stab _ _ _) |>.own Ha8.out).mono ?_; rintro e w9 ⟨rfl, ho9⟩; clear tok4; have Ho9 := Lib.hid ho9; clear hx5 ho9; have hx5 := box4 Ho9.out.box)))
    clear hx5
    go_wp2_with fail
    go_returns
    exact ⟨by simp, v', d', HC.out, HN.out, HL.out, Ho9.out.drop⟩
  · have t0 : (kd % 10 == 0) = false := by rw [beq_eq_false_iff_ne]; omega
    have t1 : (kd % 10 == 1) = false := by rw [beq_eq_false_iff_ne]; omega
    have t2 : (kd % 10 == 2) = true := by rw [beq_iff_eq]; exact hk
    clear hk
    go_enter Try.func20, Try.ntmps20
    go_wp2_with fail
    obtain ⟨bx, hbx⟩ : ∃ bx, w.heap.size = bx := ⟨_, rfl⟩
    have ho5 := Hbox.out
    rw [hbx] at ho5 ⊢
    generalize w.alloc (.cells #[.int .u8 kd, .int .i16 s, .int .u8 dat, .slice so sl sc] 38) = w5 at ho5 ⊢
    have hx5 := box4 ho5.box
    have Ho5 := Lib.hid ho5
    clear ho5 Hbox
    go_region_held3 (fun w' => w'.cell? ⟨bx, 0, none⟩ = some (.int .u8 kd) ∧ w'.cell? ⟨bx, 1, none⟩ = some (.int .i16 s) ∧ w'.cell? ⟨bx, 2, none⟩ = some (.int .u8 dat) ∧ w'.cell? ⟨bx, 3, none⟩ = some (.slice so sl sc)) (exact hx5) ((first
      | (go_at_call 28; have _t := tok1; refine (data_c kd s dat _ so sl sc rfl Hdat.out _).mono ?_; rintro e w6 ⟨rfl, hb6⟩; clear tok1; have Ha6 := Lib.hid (keepOwn (HA.out.sep (boxH_stab _ _ _)) (own0_drew (HA.out.sep (boxH_stab _ _ _)) Ho5.out) hb6); clear hx5 hb6; have hx5 := box4 Ha6.out.box)
      | (go_at_call 27; have _t := tok2; refine ((W1.out.L (dkH_stab db d)).L (boxH_stab _ _ _) |>.own Ha6.out).mono ?_; rintro e w7 ⟨rfl, ho7⟩; clear tok2; have Ha7 := Lib.hid ho7; clear hx5 ho7; have hx5 := box4 Ha7.out.box)
      | (go_at_call 28; have _t := tok3; refine (data_c kd s dat _ so sl sc rfl Hdat.out _).mono ?_; rintro e w8 ⟨rfl, hb8⟩; clear tok3; have Ha8 := Lib.hid (keepOwn (HA2.out.sep (boxH_stab _ _ _)) Ha7.out hb8); clear hx5 hb8; have hx5 := box4 Ha8.out.box)
      | (go_at_call 41; have _t := tok4; refine ((W2.out.R (volH_stab b mb v')).L (boxH_stab _ _ _) |>.own Ha8.out).mono ?_; rintro e w9 ⟨rfl, ho9⟩; clear tok4; have Ho9 := Lib.hid ho9; clear hx5 ho9; have hx5 := box4 Ho9.out.box)))
    clear hx5
    go_wp2_with fail
    go_returns
    exact ⟨by simp, v', d', HC.out, HN.out, HL.out, Ho9.out.drop⟩
  · have t0 : (kd % 10 == 0) = false := by rw [beq_eq_false_iff_ne]; omega
    have t1 : (kd % 10 == 1) = false := by rw [beq_eq_false_iff_ne]; omega
    have t2 : (kd % 10 == 2) = false := by rw [beq_eq_false_iff_ne]; omega
    have t3 : (kd % 10 == 3) = true := by rw [beq_iff_eq]; exact hk
    clear hk
    go_enter Try.func20, Try.ntmps20
    go_wp2_with fail
    obtain ⟨bx, hbx⟩ : ∃ bx, w.heap.size = bx := ⟨_, rfl⟩
    have ho5 := Hbox.out
    rw [hbx] at ho5 ⊢
    generalize w.alloc (.cells #[.int .u8 kd, .int .i16 s, .int .u8 dat, .slice so sl sc] 38) = w5 at ho5 ⊢
    have hx5 := box4 ho5.box
    have Ho5 := Lib.hid ho5
    clear ho5 Hbox
    go_region_held3 (fun w' => w'.cell? ⟨bx, 0, none⟩ = some (.int .u8 kd) ∧ w'.cell? ⟨bx, 1, none⟩ = some (.int .i16 s) ∧ w'.cell? ⟨bx, 2, none⟩ = some (.int .u8 dat) ∧ w'.cell? ⟨bx, 3, none⟩ = some (.slice so sl sc)) (exact hx5) ((first
      | (go_at_call 28; have _t := tok1; refine (data_c kd s dat _ so sl sc rfl Hdat.out _).mono ?_; rintro e w6 ⟨rfl, hb6⟩; clear tok1; have Ha6 := Lib.hid (keepOwn (HA.out.sep (boxH_stab _ _ _)) (own0_drew (HA.out.sep (boxH_stab _ _ _)) Ho5.out) hb6); clear hx5 hb6; have hx5 := box4 Ha6.out.box)
      | (go_at_call 27; have _t := tok2; refine ((W1.out.L (dkH_stab db d)).L (boxH_stab _ _ _) |>.own Ha6.out).mono ?_; rintro e w7 ⟨rfl, ho7⟩; clear tok2; have Ha7 := Lib.hid ho7; clear hx5 ho7; have hx5 := box4 Ha7.out.box)
      | (go_at_call 28; have _t := tok3; refine (data_c kd s dat _ so sl sc rfl Hdat.out _).mono ?_; rintro e w8 ⟨rfl, hb8⟩; clear tok3; have Ha8 := Lib.hid (keepOwn (HA2.out.sep (boxH_stab _ _ _)) Ha7.out hb8); clear hx5 hb8; have hx5 := box4 Ha8.out.box)
      | (go_at_call 41; have _t := tok4; refine ((W2.out.R (volH_stab b mb v')).L (boxH_stab _ _ _) |>.own Ha8.out).mono ?_; rintro e w9 ⟨rfl, ho9⟩; clear tok4; have Ho9 := Lib.hid ho9; clear hx5 ho9; have hx5 := box4 Ho9.out.box)))
    clear hx5
    go_wp2_with fail
    go_returns
    exact ⟨by simp, v', d', HC.out, HN.out, HL.out, Ho9.out.drop⟩
end Go.Proofs.Ytombldjaipcloaa
