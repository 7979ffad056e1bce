/- Numbers as bytes: the model's strings, and the program's buffer. -/
import Derived.Test.YtgmggmpkbfljfaaM
import Derived.Deep.AppendLies
set_option linter.unusedVariables false
set_option linter.unusedSimpArgs false
set_option maxRecDepth 100000
namespace Go.Proofs.Ytgmggmpkbfljfaa
open Go.RowKit
def oneS (c : Int) : ByteArray := strOfNums [c]
theorem oneS_size (c : Int) : (oneS c).size = 1 := by unfold oneS; rw [strOfNums_size]; rfl
theorem conv_one (c : Int) (w : World) : (convert 30 9 (.slice (some ⟨w.heap.size, 0, none⟩) 1 1)).run Try.prog (w.alloc (.cells #[.int .u8 c] 5)) = .ok (.string (oneS c)) (w.alloc (.cells #[.int .u8 c] 5)) := by
  refine run_convert_bytes_arg (P := Try.prog) (w.alloc (.cells #[.int .u8 c] 5)) 30 5 Try.underlying30 Try.underlying5 w.heap.size 0 1 1 [c] rfl ?_ 9 Try.underlying9
  intro i hi
  obtain rfl : i = 0 := by omega
  exact (Boxed.new w 5 (.int .u8 c)).cell
/-- The first k bytes of n, the least significant one first. -/
def numS (n : Nat) : Nat → ByteArray
  | 0 => ⟨#[]⟩
  | k + 1 => numS n k ++ oneS (((n / 256 ^ k : Nat) : Int) % 256)
theorem numS_size (n : Nat) : ∀ k, (numS n k).size = k
  | 0 => rfl
  | k + 1 => by rw [numS, ByteArray.size_append, numS_size n k, oneS_size]
theorem strCells_one (c : Int) (h0 : 0 ≤ c) (h1 : c < 256) : Lib.strCells (oneS c) = [.int .u8 c] := by
  unfold Lib.strCells oneS strOfNums
  simp
  have : (UInt8.ofNat c.toNat).toNat = c.toNat := by
    rw [UInt8.toNat_ofNat']
    omega
  omega
theorem strCells_app (s t : ByteArray) : Lib.strCells s ++ Lib.strCells t = Lib.strCells (s ++ t) := by
  simp [Lib.strCells, ByteArray.data_append]
set_option maxHeartbeats 2000000 in
theorem number_c (n : Nat) (k : Nat) (hn : n ≤ 140737488355328) (hk : k ≤ 8) (w : World) :
    Calls Try.prog 41 #[.int .i64 n, .int .i64 k] w fun e w' => e = .returned (.string (numS n k)) ∧ Below w.heap.size w w' := by
  go_enter Try.func41, Try.ntmps41
  go_wp2_with fail
  go_loopw [0, 5, 6] (fun m s i wr => ∃ j : Nat, j ≤ k ∧ i = .int .i64 j ∧ m = .int .i64 ((n / 256 ^ j : Nat) : Int) ∧ s = .string (numS n j) ∧ Below w.heap.size w wr) (fun _ _ i _ => k - (intOf i).toNat)
  case atStart => exact ⟨0, by omega, rfl, by simp, rfl, Below.refl _ _⟩
  case round =>
    obtain ⟨j, hj, rfl, rfl, rfl, hb⟩ := hrel
    have Hb := Lib.hid hb
    have hwz := hb.size
    clear hb
    have hsz : (numS n j).size ≤ 8 := by rw [numS_size]; omega
    by_cases hlt : j < k
    · have hd : n / 256 ^ (j + 1) = n / 256 ^ j / 256 := by rw [Nat.pow_succ, Nat.div_div_eq_div_mul]
      have Hs : Hid (numS n (j + 1) = numS n j ++ oneS (((n / 256 ^ j : Nat) : Int) % 256)) := rfl
      have Hd := Lib.hid hd
      clear hd
      have hml : n / 256 ^ j ≤ 140737488355328 := Nat.le_trans (Nat.div_le_self _ _) hn
      generalize n / 256 ^ j = m at *
      generalize numS n j = s at *
      have hone := fun w => conv_one ((m : Int) % 256) w
      have h1s : (oneS ((m : Int) % 256)).size ≤ 1 := by rw [oneS_size]; omega
      generalize ho1 : oneS ((m : Int) % 256) = o1 at *
      go_wp2_with fail
      go_roundw
      case rel => exact ⟨j + 1, by omega, by go_num, by rw [Hd.out]; simp, by rw [Hs.out], Hb.out.alloc hwz _⟩
      case measure => simp [intOf]; omega
    · obtain rfl : j = k := by omega
      go_wp2_with fail
      go_ret
      exact ⟨rfl, Hb.out⟩
/-! ### the program's buffer -/
/-- A row of bytes of the call's own. -/
def BufH (o : Value) (s : ByteArray) : HP := fun w F => w.ownsRow 0 5 1 o s.size (Lib.strCells s) ∧ F = o.ownBlock.toList
theorem own_keep' {w w' : World} {e : TypeId} {size : Nat} {v : Value} {n : Nat} {xs : List Value} {F : List Nat} (h : w.ownsRow 0 e size v n xs) (hk : Keep F w w') (hF : ∀ g, v.ownBlock = some g → g ∉ F) : w'.ownsRow 0 e size v n xs := by
  refine ⟨h.1, ?_⟩
  rcases h.2 with hn | ⟨g, cap, cur, hv, hb, hg, rest⟩
  · exact .inl hn
  · exact .inr ⟨g, cap, cur, hv, hb, hk.heap hg (hF g (by rw [hv]; rfl)), rest⟩
theorem own_ty {w : World} {e : TypeId} {size : Nat} {v : Value} {n : Nat} {xs : List Value} (h : w.ownsRow 0 e size v n xs) {g : Nat} (hg : v.ownBlock = some g) : ∃ cur, w.heap[g]? = some (.cells cur e (0, 0)) := by
  rcases h.2 with ⟨hv, _⟩ | ⟨g', cap, cur, hv, _, hgg, _⟩
  · rw [hv] at hg; cases hg
  · rw [hv] at hg; cases hg; exact ⟨cur, hgg⟩
theorem own_form {w : World} {e : TypeId} {size : Nat} {v : Value} {n : Nat} {xs : List Value} (h : w.ownsRow 0 e size v n xs) : ∃ po pc, v = .slice po n pc := by
  rcases h.2 with ⟨hv, h0⟩ | ⟨g, cap, cur, hv, _⟩
  · exact ⟨none, 0, by rw [hv, h0]⟩
  · exact ⟨_, cap, hv⟩
theorem bufH_stab (o : Value) (s : ByteArray) : Stab (BufH o s) where
  keep := by
    rintro w w' F G ⟨h, rfl⟩ hk hd
    exact ⟨own_keep' h hk (fun g hg => hd g (by simp [hg])), rfl⟩
  lt := by
    rintro w F ⟨h, rfl⟩ x hx
    obtain ⟨cur, h1⟩ := own_ty h (g := x) (by simpa using hx)
    exact lt_of_heap h1
theorem one_news (w : World) (v : Value) (t : TypeId) : ∀ (j : Nat) (u : Value), [v][j]? = some u → (w.alloc (.cells #[v] t)).cell? ((⟨w.heap.size, 0, none⟩ : Addr).add j) = some u := by
  intro j u hj
  match j, hj with
  | 0, hj => simp at hj; subst hj; simp [Addr.add, go_sem]
set_option maxHeartbeats 2000000 in
/-- put: so many bytes of a number behind a buffer. -/
theorem put_c (w : World) (F : List Nat) (o : Value) (s : ByteArray) (n : Nat) (k : Nat) (h : BufH o s w F) (hs : s.size ≤ 140737488350000) (hn : n ≤ 140737488355328) (hk : k ≤ 8) :
    Calls Try.prog 66 #[o, .int .i64 n, .int .i64 k] w fun e w' => ∃ po pc, e = .returned (.slice po (s.size + k) pc) ∧ To (BufH (.slice po (s.size + k) pc) (s ++ numS n k)) F w w' := by
  obtain ⟨i0, hi, hz0, hz1, hz2⟩ := info_parts infoByte
  have Hi := Lib.hid (And.intro hi (And.intro hz0 (And.intro hz1 hz2)))
  clear hi hz0 hz1 hz2
  obtain ⟨po, pc, rfl⟩ := own_form h.1
  have H := Lib.hid h
  clear h
  go_enter Try.func66, Try.ntmps66
  go_wp2_with fail
  go_loopw [0, 9] (fun b i wr => ∃ j : Nat, j ≤ k ∧ i = .int .i64 j ∧ ∃ qo qc, b = .slice qo (s.size + j) qc ∧ To (BufH (.slice qo (s.size + j) qc) (s ++ numS n j)) F w wr) (fun _ i _ => k - (intOf i).toNat)
  case atStart => exact ⟨0, by omega, rfl, po, pc, rfl, by
    have e : s ++ numS n 0 = s := by show s ++ ByteArray.empty = s; simp
    rw [e]; exact To.refl H.out⟩
  case round =>
    obtain ⟨j, hj, rfl, qo, qc, rfl, ht⟩ := hrel
    have Ht := Lib.hid ht
    clear ht
    by_cases hlt : j < k
    · obtain ⟨F', hB, hkk, hsub⟩ := Ht.out
      obtain ⟨hrow, rfl⟩ := hB
      have hsz : (s ++ numS n j).size = s.size + j := by rw [ByteArray.size_append, numS_size]
      rw [hsz] at hrow
      have Hrow := Lib.hid hrow
      have hml : n / 256 ^ j ≤ 140737488355328 := Nat.le_trans (Nat.div_le_self _ _) hn
      have hval : (n : Int) / 2 ^ (8 * j) % 256 = ((n / 256 ^ j : Nat) : Int) % 256 := by
        have e : ((n / 256 ^ j : Nat) : Int) = (n : Int) / 2 ^ (8 * j) := by
          rw [show (256 : Nat) ^ j = 2 ^ (8 * j) by rw [Nat.pow_mul]]; simp
        rw [e]
      have Hval := Lib.hid hval
      have hwl := hkk.size
      clear hrow hval
      go_wp2_with (at_builtin; refine wpList_append2 _ rfl _ _ 30 rfl 5 i0 _ 1 1 Try.underlying30 Hi.out.1 Hi.out.2.1 Hi.out.2.2.1 Hi.out.2.2.2 rfl (by decide) _ _ _ rfl (Hrow.out.alloc _) ⟨wr.heap.size, 0, none⟩ 1 1 [.int .u8 ((n : Int) / 2 ^ (8 * j) % 256)] rfl rfl (one_news _ _ _) ?c2 (by decide) ?c3 ?c4 ?_)
      case c2 => intro u hu; simp at hu; subst hu; rfl
      case c3 => unfold maxLen; omega
      case c4 => omega
      intro g cap wa hoa hga hfa
      have hka : Keep (Value.slice qo (s.size + j) qc).ownBlock.toList wr wa := (Keep.alloc _ _ _).trans (Keep.grown hga (fun k hk => by rw [hk]; simp)) (fun x hx => .inl hx)
      have hnew : To (BufH (.slice (some ⟨g, 0, none⟩) (s.size + (j + 1)) cap) (s ++ numS n (j + 1))) F w wa := by
        refine Ht.out.trans fun F' hF' => ?_
        obtain ⟨_, rfl⟩ := hF'
        refine ⟨_, ⟨?_, rfl⟩, hka, fun x hx => ?_⟩
        · have e1 : s ++ numS n (j + 1) = (s ++ numS n j) ++ oneS (((n / 256 ^ j : Nat) : Int) % 256) := by show s ++ (numS n j ++ _) = _; rw [ByteArray.append_assoc]
          rw [e1, ← strCells_app, ByteArray.size_append, hsz, oneS_size, strCells_one _ (by omega) (by omega), ← Hval.out]
          exact hoa
        · simp [Value.ownBlock] at hx
          subst hx
          rcases hfa with h | h
          · left; rw [← h]; simp
          · exact .inr (Nat.le_of_succ_le (by simpa using h))
      have Hnew := Lib.hid hnew
      clear hnew hka hfa hga hoa
      go_wp2_with fail
      go_roundw
      case rel => exact ⟨j + 1, by omega, by go_num, _, _, rfl, Hnew.out⟩
      case measure => simp [intOf]; omega
    · obtain rfl : j = k := by omega
      go_wp2_with fail
      go_ret
      exact ⟨_, _, rfl, Ht.out⟩
end Go.Proofs.Ytgmggmpkbfljfaa
