import Derived.Test.YtgmggmpkbfljfaaM
import Derived.Deep.AppendLies
import Derived.BigQuiet
/- Numbers as bytes: the model's strings, and the program's buffer. -/
set_option linter.unusedVariables false
set_option linter.unusedSimpArgs false
set_option maxRecDepth 100000
namespace Go.Proofs.Ytgmggmpkbfljfaa
open Go.RowKit
def oneS (c : Int) : ByteArray := strOfNums [c]
theorem oneS_size (c : Int) : (oneS c).size = 1 := by unfold oneS; rw [strOfNums_size]; rfl
theorem conv_one (c : Int) (w : World) : (convert 30 9 (.slice (some ⟨w.heap.size, 0, none⟩) 1 1)).run Try.prog (w.alloc (.cells #[.int .u8 c] 5)) = .ok (.string (oneS c)) (w.alloc (.cells #[.int .u8 c] 5)) := by
  refine run_convert_bytes_arg (P := Try.prog) (w.alloc (.cells #[.int .u8 c] 5)) 30 5 Try.underlying30 Try.underlying5 w.heap.size 0 1 1 [c] rfl ?_ 9 Try.underlying9
  intro i hi
  obtain rfl : i = 0 := by omega
  exact (Boxed.new w 5 (.int .u8 c)).cell
/-- The first k bytes of n, the least significant one first. -/
def numS (n : Nat) : Nat → ByteArray
  | 0 => ⟨#[]⟩
  | k + 1 => numS n k ++ oneS (((n / 256 ^ k : Nat) : Int) % 256)
theorem numS_size (n : Nat) : ∀ k, (numS n k).size = k
  | 0 => rfl
  | k + 1 => by rw [numS, ByteArray.size_append, numS_size n k, oneS_size]
theorem strCells_one (c : Int) (h0 : 0 ≤ c) (h1 : c < 256) : Lib.strCells (oneS c) = [.int .u8 c] := by
  unfold Lib.strCells oneS strOfNums
  simp
  have : (UInt8.ofNat c.toNat).toNat = c.toNat := by
    rw [UInt8.toNat_ofNat']
    omega
  omega
theorem strCells_app (s t : ByteArray) : Lib.strCells s ++ Lib.strCells t = Lib.strCells (s ++ t) := by
  simp [Lib.strCells, ByteArray.data_append]
set_option maxHeartbeats 2000000 in
theorem number_c (n : Nat) (k : Nat) (hn : n ≤ 140737488355328) (hk : k ≤ 8) (w : World) :
    Calls Try.prog 41 #[.int .i64 n, .int .i64 k] w fun e w' => e = .returned (.string (numS n k)) ∧ Below w.heap.size w w' := by
  go_enter Try.func41, Try.ntmps41
  go_wp2_with fail
  go_loopw [0, 5, 6] (fun m s i wr => ∃ j : Nat, j ≤ k ∧ i = .int .i64 j ∧ m = .int .i64 ((n / 256 ^ j : Nat) : Int) ∧ s = .string (numS n j) ∧ Below w.heap.size w wr) (fun _ _ i _ => k - (intOf i).toNat)
  case atStart => exact ⟨0, by omega, rfl, by simp, rfl, Below.refl _ _⟩
  case round =>
    obtain ⟨j, hj, rfl, rfl, rfl, hb⟩ := hrel
    have Hb := Lib.hid hb
    have hwz := hb.size
    clear hb
    have hsz : (numS n j).size ≤ 8 := by rw [numS_size]; omega
    by_cases hlt : j < k
    · have hd : n / 256 ^ (j + 1) = n / 256 ^ j / 256 := by rw [Nat.pow_succ, Nat.div_div_eq_div_mul]
      have Hs : Hid (numS n (j + 1) = numS n j ++ oneS (((n / 256 ^ j : Nat) : Int) % 256)) := rfl
      have Hd := Lib.hid hd
      clear hd
      have hml : n / 256 ^ j ≤ 140737488355328 := Nat.le_trans (Nat.div_le_self _ _) hn
      generalize n / 256 ^ j = m at *
      generalize numS n j = s at *
      have hone := fun w => conv_one ((m : Int) % 256) w
      have h1s : (oneS ((m : Int) % 256)).size ≤ 1 := by rw [oneS_size]; omega
      generalize ho1 : oneS ((m : Int) % 256) = o1 at *
      go_wp2_with fail
      go_roundw
      case rel => exact ⟨j + 1, by omega, by go_num, by rw [Hd.out]; simp, by rw [Hs.out], Hb.out.alloc hwz _⟩
      case measure => simp [intOf]; omega
    · obtain rfl : j = k := by omega
      go_wp2_with fail
      go_ret
      exact ⟨rfl, Hb.out⟩
/-! ### the program's buffer -/
/-- A row of bytes of the call's own. -/
def BufH (o : Value) (s : ByteArray) : HP := fun w F => w.ownsRow 0 5 1 o s.size (Lib.strCells s) ∧ F = o.ownBlock.toList
theorem own_keep' {w w' : World} {e : TypeId} {size : Nat} {v : Value} {n : Nat} {xs : List Value} {F : List Nat} (h : w.ownsRow 0 e size v n xs) (hk : Keep F w w') (hF : ∀ g, v.ownBlock = some g → g ∉ F) : w'.ownsRow 0 e size v n xs := by
  refine ⟨h.1, ?_⟩
  rcases h.2 with hn | ⟨g, cap, cur, hv, hb, hg, rest⟩
  · exact .inl hn
  · exact .inr ⟨g, cap, cur, hv, hb, hk.heap hg (hF g (by rw [hv]; rfl)), rest⟩
theorem own_ty {w : World} {e : TypeId} {size : Nat} {v : Value} {n : Nat} {xs : List Value} (h : w.ownsRow 0 e size v n xs) {g : Nat} (hg : v.ownBlock = some g) : ∃ cur, w.heap[g]? = some (.cells cur e (0, 0)) := by
  rcases h.2 with ⟨hv, _⟩ | ⟨g', cap, cur, hv, _, hgg, _⟩
  · rw [hv] at hg; cases hg
  · rw [hv] at hg; cases hg; exact ⟨cur, hgg⟩
theorem own_form {w : World} {e : TypeId} {size : Nat} {v : Value} {n : Nat} {xs : List Value} (h : w.ownsRow 0 e size v n xs) : ∃ po pc, v = .slice po n pc := by
  rcases h.2 with ⟨hv, h0⟩ | ⟨g, cap, cur, hv, _⟩
  · exact ⟨none, 0, by rw [hv, h0]⟩
  · exact ⟨_, cap, hv⟩
theorem bufH_stab (o : Value) (s : ByteArray) : Stab (BufH o s) where
  keep := by
    rintro w w' F G ⟨h, rfl⟩ hk hd
    exact ⟨own_keep' h hk (fun g hg => hd g (by simp [hg])), rfl⟩
  lt := by
    rintro w F ⟨h, rfl⟩ x hx
    obtain ⟨cur, h1⟩ := own_ty h (g := x) (by simpa using hx)
    exact lt_of_heap h1
theorem one_news (w : World) (v : Value) (t : TypeId) : ∀ (j : Nat) (u : Value), [v][j]? = some u → (w.alloc (.cells #[v] t)).cell? ((⟨w.heap.size, 0, none⟩ : Addr).add j) = some u := by
  intro j u hj
  match j, hj with
  | 0, hj => simp at hj; subst hj; simp [Addr.add, go_sem]
set_option maxHeartbeats 2000000 in
/-- put: so many bytes of a number behind a buffer. -/
theorem put_c (w : World) (F : List Nat) (o : Value) (s : ByteArray) (n : Nat) (k : Nat) (h : BufH o s w F) (hs : s.size ≤ 140737488350000) (hn : n ≤ 140737488355328) (hk : k ≤ 8) :
    Calls Try.prog 66 #[o, .int .i64 n, .int .i64 k] w fun e w' => ∃ po pc, e = .returned (.slice po (s.size + k) pc) ∧ To (BufH (.slice po (s.size + k) pc) (s ++ numS n k)) F w w' := by
  obtain ⟨i0, hi, hz0, hz1, hz2⟩ := info_parts infoByte
  have Hi := Lib.hid (And.intro hi (And.intro hz0 (And.intro hz1 hz2)))
  clear hi hz0 hz1 hz2
  obtain ⟨po, pc, rfl⟩ := own_form h.1
  have H := Lib.hid h
  clear h
  go_enter Try.func66, Try.ntmps66
  go_wp2_with fail
  go_loopw [0, 9] (fun b i wr => ∃ j : Nat, j ≤ k ∧ i = .int .i64 j ∧ ∃ qo qc, b = .slice qo (s.size + j) qc ∧ To (BufH (.slice qo (s.size + j) qc) (s ++ numS n j)) F w wr) (fun _ i _ => k - (intOf i).toNat)
  case atStart => exact ⟨0, by omega, rfl, po, pc, rfl, by
    have e : s ++ numS n 0 = s := by show s ++ ByteArray.empty = s; simp
    rw [e]; exact To.refl H.out⟩
  case round =>
    obtain ⟨j, hj, rfl, qo, qc, rfl, ht⟩ := hrel
    have Ht := Lib.hid ht
    clear ht
    by_cases hlt : j < k
    · obtain ⟨F', hB, hkk, hsub⟩ := Ht.out
      obtain ⟨hrow, rfl⟩ := hB
      have hsz : (s ++ numS n j).size = s.size + j := by rw [ByteArray.size_append, numS_size]
      rw [hsz] at hrow
      have Hrow := Lib.hid hrow
      have hml : n / 256 ^ j ≤ 140737488355328 := Nat.le_trans (Nat.div_le_self _ _) hn
      have hval : (n : Int) / 2 ^ (8 * j) % 256 = ((n / 256 ^ j : Nat) : Int) % 256 := by
        have e : ((n / 256 ^ j : Nat) : Int) = (n : Int) / 2 ^ (8 * j) := by
          rw [show (256 : Nat) ^ j = 2 ^ (8 * j) by rw [Nat.pow_mul]]; simp
        rw [e]
      have Hval := Lib.hid hval
      have hwl := hkk.size
      clear hrow hval
      go_wp2_with (at_builtin; refine wpList_append2 _ rfl _ _ 30 rfl 5 i0 _ 1 1 Try.underlying30 Hi.out.1 Hi.out.2.1 Hi.out.2.2.1 Hi.out.2.2.2 rfl (by decide) _ _ _ rfl (Hrow.out.alloc _) ⟨wr.heap.size, 0, none⟩ 1 1 [.int .u8 ((n : Int) / 2 ^ (8 * j) % 256)] rfl rfl (one_news _ _ _) ?c2 (by decide) ?c3 ?c4 ?_)
      case c2 => intro u hu; simp at hu; subst hu; rfl
      case c3 => unfold maxLen; omega
      case c4 => omega
      intro g cap wa hoa hga hfa
      have hka : Keep (Value.slice qo (s.size + j) qc).ownBlock.toList wr wa := (Keep.alloc _ _ _).trans (Keep.grown hga (fun k hk => by rw [hk]; simp)) (fun x hx => .inl hx)
      have hnew : To (BufH (.slice (some ⟨g, 0, none⟩) (s.size + (j + 1)) cap) (s ++ numS n (j + 1))) F w wa := by
        refine Ht.out.trans fun F' hF' => ?_
        obtain ⟨_, rfl⟩ := hF'
        refine ⟨_, ⟨?_, rfl⟩, hka, fun x hx => ?_⟩
        · have e1 : s ++ numS n (j + 1) = (s ++ numS n j) ++ oneS (((n / 256 ^ j : Nat) : Int) % 256) := by show s ++ (numS n j ++ _) = _; rw [ByteArray.append_assoc]
          rw [e1, ← strCells_app, ByteArray.size_append, hsz, oneS_size, strCells_one _ (by omega) (by omega), ← Hval.out]
          exact hoa
        · simp [Value.ownBlock] at hx
          subst hx
          rcases hfa with h | h
          · left; rw [← h]; simp
          · exact .inr (Nat.le_of_succ_le (by simpa using h))
      have Hnew := Lib.hid hnew
      clear hnew hka hfa hga hoa
      go_wp2_with fail
      go_roundw
      case rel => exact ⟨j + 1, by omega, by go_num, _, _, rfl, Hnew.out⟩
      case measure => simp [intOf]; omega
    · obtain rfl : j = k := by omega
      go_wp2_with fail
      go_ret
      exact ⟨_, _, rfl, Ht.out⟩
end Go.Proofs.Ytgmggmpkbfljfaa

/- Padding to whole sectors. -/
set_option linter.unusedVariables false
set_option linter.unusedSimpArgs false
set_option maxRecDepth 100000
namespace Go.Proofs.Ytgmggmpkbfljfaa
open Go.RowKit
/-- The worlds in which nothing of w has turned. -/
structure KW (w : World) where
  x : World
  k : Keep [] w x
def Wk (w : World) (n : KW w) : World := n.x
instance (w : World) : Nonempty (KW w) := ⟨⟨w, Keep.refl _ _⟩⟩
/-- A region that draws its order, whose operations read and whose callees leave all that was there: one walk. -/
theorem wp_region_keep {P : Program} {id : Nat} {Q : Exit → Act → World → Prop} {a : Act} {w : World} {l : List Oper} (hm : P.follows .mixedOrders = true) (hB : Region.lexB .any l.toArray = true)
    (h : wpQuiet P l.toArray (fun w' => ∃ n, w' = Wk w n) (fun a' => ∀ w', (∃ n, w' = Wk w n) → Q .normal a' w') l a) : (Code.region id l.toArray true).wp P Q a w :=
  wp_region_quiet (C := fun w' => ∃ n, w' = Wk w n) hm hB ⟨⟨w.drew, Keep.drew _ _⟩, rfl⟩ (by simpa using h)
theorem quiet_pure {P : Program} {f : Nat} {args : Array Value} {v : Value} {w : World} (n : KW w) (h : Calls P f args (Wk w n) fun e w' => e = .returned v ∧ Below (Wk w n).heap.size (Wk w n) w') : Calls P f args (Wk w n) fun e w' => e = .returned v ∧ ∃ m, w' = Wk w m :=
  h.mono fun e w' hw => ⟨hw.1, ⟨w', n.k.belowPast hw.2⟩, rfl⟩
theorem Keep.trans0 {a b c : World} (h : Keep [] a b) (k : Keep [] b c) : Keep [] a c := h.trans k (by simp)
def zerosS (n : Nat) : ByteArray := ⟨(List.replicate n (0 : UInt8)).toArray⟩
def padN (n : Nat) : Nat := (128 - n % 128) % 128
def padS (s : ByteArray) : ByteArray := s ++ zerosS (padN s.size)
theorem zerosS_size (n : Nat) : (zerosS n).size = n := by simp [zerosS, ByteArray.size]
theorem rep_zero (n : Nat) : (⟨(Lib.repeatL (⟨#[0]⟩ : ByteArray).data.toList n).toArray⟩ : ByteArray) = zerosS n := by
  unfold zerosS
  congr 2
  show Lib.repeatL [0] n = _
  induction n with
  | zero => rfl
  | succ n ih => rw [Lib.repeatL, ih]; rfl
theorem strNums (s : ByteArray) : strOfNums (s.data.toList.map fun x => (x.toNat : Int)) = s := by
  apply ByteArray.ext
  apply Array.toList_inj.1
  rw [strOfNums_data, List.map_map]
  conv => rhs; rw [← List.map_id s.data.toList]
  apply List.map_congr_left
  intro x _
  simp
theorem conv_buf {w : World} {po : Option Addr} {pc : Nat} {s : ByteArray} (h : w.ownsRow 0 5 1 (.slice po s.size pc) s.size (Lib.strCells s)) :
    (convert 30 9 (.slice po s.size pc)).run Try.prog w = .ok (.string s) w := by
  rcases h.2 with ⟨hv, h0⟩ | ⟨g, cap, cur, hv, _⟩
  · injection hv with h1 h2 h3
    subst h1
    have hs : s = ByteArray.empty := by
      apply ByteArray.ext
      exact Array.eq_empty_of_size_eq_zero h0
    rw [run_convert_bytes_nil (P := Try.prog) w 30 5 Try.underlying30 Try.underlying5 _ _ 9 Try.underlying9, hs]
  · injection hv with h1 h2 h3
    subst h1
    have := run_convert_bytes_arg (P := Try.prog) w 30 5 Try.underlying30 Try.underlying5 g 0 s.size pc (s.data.toList.map fun x => (x.toNat : Int)) (by rw [List.length_map, Array.length_toList]; rfl) (fun i hi => by
      have hc := h.cells (g := g) rfl i (.int .u8 ((s.data.toList.map fun x => (x.toNat : Int)).getD i 0)) (by
        unfold Lib.strCells
        have hil : i < s.data.toList.length := by rw [Array.length_toList]; exact hi
        rw [List.getElem?_map, List.getD_eq_getElem?_getD, List.getElem?_map, List.getElem?_eq_getElem hil]; rfl)
      rwa [Addr.add_lit] at hc) 9 Try.underlying9
    rw [this, strNums]
set_option maxHeartbeats 2000000 in
theorem padded_c (w : World) (F : List Nat) (o : Value) (s : ByteArray) (h : BufH o s w F) (hs : s.size ≤ 140737488350000) :
    Calls Try.prog 67 #[o] w fun e w' => e = .returned (.string (padS s)) ∧ Keep [] w w' := by
  obtain ⟨po, pc, rfl⟩ := own_form h.1
  have hcv : ∀ n, (convert 30 9 (.slice po s.size pc)).run Try.prog (Wk w n) = .ok (.string s) (Wk w n) := fun n => conv_buf ((bufH_stab _ _).keep h n.k (by simp)).1
  have hpn : padN s.size < 128 := Nat.mod_lt _ (by decide)
  have hr : ((128 - (s.size : Int) % 128) % 128) = ((padN s.size : Nat) : Int) := by unfold padN; omega
  have Hrp : Hid (∀ n, Calls Try.prog 76 #[.string ⟨#[0]⟩, .int .i64 ((padN s.size : Nat) : Int)] (Wk w n) fun e w' => e = .returned (.string (zerosS (padN s.size))) ∧ ∃ m, w' = Wk w m) := fun n => quiet_pure n (by
    have := Try.strings_Repeat ⟨#[0]⟩ (padN s.size) (Wk w n) (by omega) (by show 1 * _ ≤ _; omega)
    rwa [rep_zero] at this)
  have hzz : (zerosS (padN s.size)).size ≤ 128 := by rw [zerosS_size]; omega
  have Hps : Hid (padS s = s ++ zerosS (padN s.size)) := rfl
  generalize padN s.size = p at *
  generalize zerosS p = z at *
  clear h
  go_enter Try.func67, Try.ntmps67
  go_wp2_with fail
  rw [hr]
  clear hr
  refine wp_region_keep (by kernel_rfl) (by kernel_rfl) ?_
  repeat (first
    | go_big_quiet_skip
    | (go_big_quiet_want; go_big_quiet_op; first | go_big_quiet_on | go_big_quiet_call (first
      | (go_at_call 76; exact Hrp.out _))))
  refine wpQuiet_nil ?_
  rintro _ ⟨⟨w1, hk⟩, rfl⟩
  go_wp2_with fail
  go_ret
  exact ⟨by rw [Hps.out]; rfl, hk⟩
end Go.Proofs.Ytgmggmpkbfljfaa

/- The model's padding, and the bytes of a group. -/
set_option linter.unusedVariables false
set_option linter.unusedSimpArgs false
set_option maxRecDepth 100000
namespace Go.Proofs.Ytgmggmpkbfljfaa
open Go.RowKit
theorem made_get (n i : Nat) (h : i < n) : (madeCells (Value.int .u8 0).cells n)[i]? = some (.int .u8 0) := by
  unfold madeCells
  rw [Array.getElem?_map, Array.getElem?_range, if_pos h]
  show some ((#[Value.int .u8 0] : Array Value)[i % 1]!) = _
  rw [Nat.mod_one]; rfl
theorem made_zeros (w : World) (n : Nat) (hn : n ≤ 140737488355328) : ∃ w', (Instr.makeSlice 30 (.int .i64 (n : Int)) (.int .i64 (n : Int))).run Try.prog w = .ok (.slice (some ⟨w.heap.size, 0, none⟩) n n) w' ∧
    (convert 30 9 (.slice (some ⟨w.heap.size, 0, none⟩) n n)).run Try.prog w' = .ok (.string (zerosS n)) w' ∧ Keep [] w w' := by
  obtain ⟨i0, hi, hz0, hz1, hz2⟩ := info_parts infoByte
  have hm := run_make (P := Try.prog) w 30 5 i0 _ Try.underlying30 hi hz0 .i64 .i64 (n : Int) (n : Int) (by omega) (by omega) (by rw [hz2]; omega) (by omega)
  rw [Int.toNat_natCast, hz1, Nat.mul_one] at hm
  refine ⟨_, hm, ?_, Keep.alloc [] _ _⟩
  have := run_convert_bytes_arg (P := Try.prog) (w.alloc (.cells (madeCells (Value.int .u8 0).cells n) 5)) 30 5 Try.underlying30 Try.underlying5 w.heap.size 0 n n (List.replicate n 0) (by simp) (fun i hi => by
    rw [Nat.zero_add, World.cell?_alloc_at _ _ _ _ rfl, made_get n i hi, List.getD_eq_getElem?_getD, List.getElem?_replicate, if_pos hi]; rfl) 9 Try.underlying9
  rw [this]
  congr 2
  unfold strOfNums zerosS
  congr 1
  rw [List.map_replicate]; rfl
set_option maxHeartbeats 2000000 in
theorem paddedM_c (w : World) (s : ByteArray) (hs : s.size ≤ 140737488350000) (h0 : 0 < s.size) :
    Calls Try.prog 42 #[.string s] w fun e w' => e = .returned (.string (padS s)) ∧ Keep [] w w' := by
  have hne : ((s.size : Int) == 0) = false := by rw [beq_eq_false_iff_ne]; omega
  by_cases hm : s.size % 128 = 0
  · have hmi : ((s.size : Int) % 128 != 0) = false := by rw [bne_eq_false_iff_eq]; omega
    have hp : padS s = s := by
      unfold padS padN
      rw [hm]
      show s ++ ByteArray.empty = s
      simp
    rw [hp]
    clear hm hp
    go_enter Try.func42, Try.ntmps42
    go_wp2_with fail
    refine wp_loop_rounds 1 ?_
    rw [rounds_succ]
    go_wp2_with fail
    go_ret
    exact ⟨rfl, Keep.refl _ _⟩
  · have hmi : ((s.size : Int) % 128 != 0) = true := by rw [bne_iff_ne]; omega
    obtain ⟨p, hp⟩ : ∃ p, padN s.size = p := ⟨_, rfl⟩
    have hpe : p = 128 - s.size % 128 := by rw [← hp]; unfold padN; omega
    have hps : padS s = s ++ zerosS p := by unfold padS; rw [hp]
    rw [hps]
    have hr : (128 - (s.size : Int) % 128) = (p : Int) := by omega
    have hp1 : p ≤ 128 := by omega
    obtain ⟨wm, hmk, hcz, hkm⟩ := made_zeros w p (by omega)
    have Hkm := Lib.hid hkm
    clear hkm
    have hz1 : ((s.size + p : Nat) : Int) % 128 = 0 := by omega
    have hz2 : ((s.size : Int) + ((zerosS p).size : Int) == 0) = false := by rw [zerosS_size, beq_eq_false_iff_ne]; omega
    have hz3 : (((s.size : Int) + ((zerosS p).size : Int)) % 128 != 0) = false := by rw [zerosS_size, ← Int.natCast_add, hz1]; rfl
    have hzz : (zerosS p).size ≤ 128 := by rw [zerosS_size]; omega
    clear hm hp hps hpe hz1
    go_enter Try.func42, Try.ntmps42
    go_wp2_with fail
    refine wp_loop_rounds 2 ?_
    rw [rounds_succ]
    go_wp2_with fail
    rw [rounds_succ]
    go_wp2_with fail
    go_ret
    exact ⟨rfl, Hkm.out⟩
end Go.Proofs.Ytgmggmpkbfljfaa
