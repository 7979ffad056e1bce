/- Padding to whole sectors. -/
import Derived.Test.YtgmggmpkbfljfaaE
import Derived.BigQuiet
set_option linter.unusedVariables false
set_option linter.unusedSimpArgs false
set_option maxRecDepth 100000
namespace Go.Proofs.Ytgmggmpkbfljfaa
open Go.RowKit
/-- The worlds in which nothing of w has turned. -/
structure KW (w : World) where
  x : World
  k : Keep [] w x
def Wk (w : World) (n : KW w) : World := n.x
instance (w : World) : Nonempty (KW w) := ⟨⟨w, Keep.refl _ _⟩⟩
/-- A region that draws its order, whose operations read and whose callees leave all that was there: one walk. -/
theorem wp_region_keep {P : Program} {id : Nat} {Q : Exit → Act → World → Prop} {a : Act} {w : World} {l : List Oper} (hm : P.follows .mixedOrders = true) (hB : Region.lexB .any l.toArray = true)
    (h : wpQuiet P l.toArray (fun w' => ∃ n, w' = Wk w n) (fun a' => ∀ w', (∃ n, w' = Wk w n) → Q .normal a' w') l a) : (Code.region id l.toArray true).wp P Q a w :=
  wp_region_quiet (C := fun w' => ∃ n, w' = Wk w n) hm hB ⟨⟨w.drew, Keep.drew _ _⟩, rfl⟩ (by simpa using h)
theorem quiet_pure {P : Program} {f : Nat} {args : Array Value} {v : Value} {w : World} (n : KW w) (h : Calls P f args (Wk w n) fun e w' => e = .returned v ∧ Below (Wk w n).heap.size (Wk w n) w') : Calls P f args (Wk w n) fun e w' => e = .returned v ∧ ∃ m, w' = Wk w m :=
  h.mono fun e w' hw => ⟨hw.1, ⟨w', n.k.belowPast hw.2⟩, rfl⟩
theorem Keep.trans0 {a b c : World} (h : Keep [] a b) (k : Keep [] b c) : Keep [] a c := h.trans k (by simp)
def zerosS (n : Nat) : ByteArray := ⟨(List.replicate n (0 : UInt8)).toArray⟩
def padN (n : Nat) : Nat := (128 - n % 128) % 128
def padS (s : ByteArray) : ByteArray := s ++ zerosS (padN s.size)
theorem zerosS_size (n : Nat) : (zerosS n).size = n := by simp [zerosS, ByteArray.size]
theorem rep_zero (n : Nat) : (⟨(Lib.repeatL (⟨#[0]⟩ : ByteArray).data.toList n).toArray⟩ : ByteArray) = zerosS n := by
  unfold zerosS
  congr 2
  show Lib.repeatL [0] n = _
  induction n with
  | zero => rfl
  | succ n ih => rw [Lib.repeatL, ih]; rfl
theorem strNums (s : ByteArray) : strOfNums (s.data.toList.map fun x => (x.toNat : Int)) = s := by
  apply ByteArray.ext
  apply Array.toList_inj.1
  rw [strOfNums_data, List.map_map]
  conv => rhs; rw [← List.map_id s.data.toList]
  apply List.map_congr_left
  intro x _
  simp
theorem conv_buf {w : World} {po : Option Addr} {pc : Nat} {s : ByteArray} (h : w.ownsRow 0 5 1 (.slice po s.size pc) s.size (Lib.strCells s)) :
    (convert 30 9 (.slice po s.size pc)).run Try.prog w = .ok (.string s) w := by
  rcases h.2 with ⟨hv, h0⟩ | ⟨g, cap, cur, hv, _⟩
  · injection hv with h1 h2 h3
    subst h1
    have hs : s = ByteArray.empty := by
      apply ByteArray.ext
      exact Array.eq_empty_of_size_eq_zero h0
    rw [run_convert_bytes_nil (P := Try.prog) w 30 5 Try.underlying30 Try.underlying5 _ _ 9 Try.underlying9, hs]
  · injection hv with h1 h2 h3
    subst h1
    have := run_convert_bytes_arg (P := Try.prog) w 30 5 Try.underlying30 Try.underlying5 g 0 s.size pc (s.data.toList.map fun x => (x.toNat : Int)) (by rw [List.length_map, Array.length_toList]; rfl) (fun i hi => by
      have hc := h.cells (g := g) rfl i (.int .u8 ((s.data.toList.map fun x => (x.toNat : Int)).getD i 0)) (by
        unfold Lib.strCells
        have hil : i < s.data.toList.length := by rw [Array.length_toList]; exact hi
        rw [List.getElem?_map, List.getD_eq_getElem?_getD, List.getElem?_map, List.getElem?_eq_getElem hil]; rfl)
      rwa [Addr.add_lit] at hc) 9 Try.underlying9
    rw [this, strNums]
set_option maxHeartbeats 2000000 in
theorem padded_c (w : World) (F : List Nat) (o : Value) (s : ByteArray) (h : BufH o s w F) (hs : s.size ≤ 140737488350000) :
    Calls Try.prog 67 #[o] w fun e w' => e = .returned (.string (padS s)) ∧ Keep [] w w' := by
  obtain ⟨po, pc, rfl⟩ := own_form h.1
  have hcv : ∀ n, (convert 30 9 (.slice po s.size pc)).run Try.prog (Wk w n) = .ok (.string s) (Wk w n) := fun n => conv_buf ((bufH_stab _ _).keep h n.k (by simp)).1
  have hpn : padN s.size < 128 := Nat.mod_lt _ (by decide)
  have hr : ((128 - (s.size : Int) % 128) % 128) = ((padN s.size : Nat) : Int) := by unfold padN; omega
  have Hrp : Hid (∀ n, Calls Try.prog 76 #[.string ⟨#[0]⟩, .int .i64 ((padN s.size : Nat) : Int)] (Wk w n) fun e w' => e = .returned (.string (zerosS (padN s.size))) ∧ ∃ m, w' = Wk w m) := fun n => quiet_pure n (by
    have := Try.strings_Repeat ⟨#[0]⟩ (padN s.size) (Wk w n) (by omega) (by show 1 * _ ≤ _; omega)
    rwa [rep_zero] at this)
  have hzz : (zerosS (padN s.size)).size ≤ 128 := by rw [zerosS_size]; omega
  have Hps : Hid (padS s = s ++ zerosS (padN s.size)) := rfl
  generalize padN s.size = p at *
  generalize zerosS p = z at *
  clear h
  go_enter Try.func67, Try.ntmps67
  go_wp2_with fail
  rw [hr]
  clear hr
  refine wp_region_keep (by kernel_rfl) (by kernel_rfl) ?_
  repeat (first
    | go_big_quiet_skip
    | (go_big_quiet_want; go_big_quiet_op; first | go_big_quiet_on | go_big_quiet_call (first
      | (go_at_call 76; exact Hrp.out _))))
  refine wpQuiet_nil ?_
  rintro _ ⟨⟨w1, hk⟩, rfl⟩
  go_wp2_with fail
  go_ret
  exact ⟨by rw [Hps.out]; rfl, hk⟩
end Go.Proofs.Ytgmggmpkbfljfaa
