/- page.encode: a buffer that begins as a constant row. -/
import Derived.Test.YtgmggmpkbfljfaaG2
import Derived.Lib.SmallJoins
set_option linter.unusedVariables false
set_option linter.unusedSimpArgs false
set_option maxRecDepth 100000
namespace Go.Proofs.Ytgmggmpkbfljfaa
open Go.RowKit
/-- A row of the call's own, or a full one that is only read. -/
def OwnG (w : World) (e : TypeId) (size : Nat) (v : Value) (n : Nat) (xs : List Value) : Prop :=
  w.ownsRow 0 e size v n xs ∨ ∃ g, v = .slice (some ⟨g, 0, none⟩) n n ∧ xs.length = n * size ∧ g < w.heap.size ∧ ∀ (j : Nat) u, xs[j]? = some u → w.cell? ((⟨g, 0, none⟩ : Addr).add j) = some u
theorem OwnG.keep {w w' : World} {e : TypeId} {size : Nat} {v : Value} {n : Nat} {xs : List Value} {F : List Nat} (h : OwnG w e size v n xs) (hk : Keep F w w') (hF : ∀ g, v.ownBlock = some g → g ∉ F) : OwnG w' e size v n xs := by
  rcases h with h | ⟨g, rfl, hl, hg, hc⟩
  · exact .inl (own_keep' h hk hF)
  · refine .inr ⟨g, rfl, hl, Nat.lt_of_lt_of_le hg hk.size, fun j u hj => ?_⟩
    have := hc j u hj
    rw [Addr.add_lit] at this ⊢
    rw [cell_same (w := w) (hk.block g hg (hF g rfl))]
    exact this
theorem ownG_form {w : World} {e : TypeId} {size : Nat} {v : Value} {n : Nat} {xs : List Value} (h : OwnG w e size v n xs) : ∃ po pc, v = .slice po n pc := by
  rcases h with h | ⟨g, rfl, _⟩
  · exact own_form h
  · exact ⟨_, _, rfl⟩
section
variable {P : Program} (w : World)
theorem run_append_ownG (t ty e : TypeId) (i : TypeInfo) (z : Value) (size bytes : Nat) (ht : P.underlying t = some (.slice e)) (hi : P.info? e = some i) (hz : i.zero = some z)
    (hsize : i.size = size) (hby : i.bytes = bytes) (hzs : z.cells.size = size) (hsz : 0 < size)
    (v : Value) (n : Nat) (xs : List Value) (hown : OwnG w e size v n xs)
    (a : Addr) (m c : Nat) (news : List Value) (hl : news.length = m * size) (hnews : ∀ j u, news[j]? = some u → w.cell? (a.add j) = some u) (h1 : ∀ u ∈ news, u.oneCell' = true)
    (hm : 0 < m) (h63 : n + m ≤ maxLen) (hbytes : (n + m) * bytes ≤ 140737488355328) :
    ∃ g cap w', (Builtin.append_ #[t, t] ty #[v, .slice (some a) m c]).run P w = .ok (.slice (some ⟨g, 0, none⟩) (n + m) cap) w' ∧ w'.ownsRow 0 e size (.slice (some ⟨g, 0, none⟩) (n + m) cap) (n + m) (xs ++ news) ∧ w.grownBy w' v.ownBlock ∧
      (some g = v.ownBlock ∨ w.heap.size ≤ g) := by
  rcases hown with hown | ⟨g, rfl, hx, hg, hc⟩
  · exact run_append_own2 (P := P) w t ty e i z size bytes ht hi hz hsize hby hzs hsz v n xs hown a m c news hl hnews h1 hm h63 hbytes
  · subst hsize
    subst hby
    have hsmall : n + m ≤ 9223372036854775807 := by simp only [maxLen] at h63; omega
    have hr := run_append_grow (P := P) w t ty e i z ht hi hz ⟨g, 0, none⟩ n n xs hx hc a m c news hl hnews (by omega) (by omega) (growslice_fits (by omega) hbytes)
    have hge := grownCap_ge w (n + m) n e
    have hcm : grownCap w (n + m) n e ≤ maxLen := grownCap_le_maxLen w (n + m) n e h63
    refine ⟨w.heap.size, _, _, hr, ⟨by rw [List.length_append, hx, hl, Nat.add_mul], .inr ⟨w.heap.size, _, _, rfl, Nat.zero_le _, heap_alloc_new w.drew _, hge, hcm, ?_, ?_⟩⟩, ⟨rfl, rfl, rfl, by simp, fun k hk _ => heap_alloc_old w.drew _ k hk⟩, .inr (Nat.le_refl _)⟩
    · simp only [Array.size_append, List.size_toArray, size_zeroCells, hzs, hx, hl, ← Nat.add_mul]
      congr 1
      omega
    · rw [Array.toList_append, Array.toList_append]
      rw [List.take_append_of_le_length (by simp [hx, hl, Nat.add_mul])]
      rw [List.take_of_length_le (by simp [hx, hl, Nat.add_mul])]
theorem wpList_appendG {ops : Array Oper} {rest : List Oper} {o : Oper} {a : Act} {Q : Exit → Act → World → Prop} (hgd : o.guard = none) (s x : Operand) (t : TypeId)
    (ho : o.op = .call { callee := .builtin .append, args := #[s, x], argTypes := #[t, t] })
    (e : TypeId) (i : TypeInfo) (z : Value) (size bytes : Nat) (ht : P.underlying t = some (.slice e)) (hi : P.info? e = some i) (hz : i.zero = some z)
    (hsize : i.size = size) (hby : i.bytes = bytes) (hzs : z.cells.size = size) (hsz : 0 < size)
    (v : Value) (n : Nat) (xs : List Value) (hs : a.eval s = v) (hown : OwnG w e size v n xs)
    (ad : Addr) (m c : Nat) (news : List Value) (hx : a.eval x = .slice (some ad) m c) (hl : news.length = m * size) (hnews : ∀ j u, news[j]? = some u → w.cell? (ad.add j) = some u) (h1 : ∀ u ∈ news, u.oneCell' = true)
    (hm : 0 < m) (h63 : n + m ≤ maxLen) (hbytes : (n + m) * bytes ≤ 140737488355328)
    (h : ∀ g cap w', w'.ownsRow 0 e size (.slice (some ⟨g, 0, none⟩) (n + m) cap) (n + m) (xs ++ news) → w.grownBy w' v.ownBlock → (some g = v.ownBlock ∨ w.heap.size ≤ g) → wpList P ops Q rest (a.put o.dst (.slice (some ⟨g, 0, none⟩) (n + m) cap)) w') : wpList P ops Q (o :: rest) a w := by
  refine wpList_plain hgd fun K hK => ?_
  obtain ⟨g, cap, w', hr, h2, h3, h4⟩ := run_append_ownG (P := P) w t o.type e i z size bytes ht hi hz hsize hby hzs hsz v n xs hown ad m c news hl hnews h1 hm h63 hbytes
  unfold Oper.wp execOp
  simp only [ho, resolve, invoke, builtin, Sem.run_bind, Sem.run_pure, Result.andThen_ok, List.map_toArray, List.map_cons, List.map_nil, hs, hx, hr]
  exact hK _ _ (h g cap w' h2 h3 h4)
end
def BufG (o : Value) (s : ByteArray) : HP := fun w F => OwnG w 5 1 o s.size (Lib.strCells s) ∧ F = o.ownBlock.toList
theorem bufG_stab (o : Value) (s : ByteArray) : Stab (BufG o s) where
  keep := by
    rintro w w' F G ⟨h, rfl⟩ hk hd
    exact ⟨h.keep hk (fun g hg => hd g (by simp [hg])), rfl⟩
  lt := by
    rintro w F ⟨h, rfl⟩ x hx
    rcases h with h | ⟨g, rfl, _, hg, _⟩
    · obtain ⟨cur, h1⟩ := own_ty h (g := x) (by simpa using hx)
      exact lt_of_heap h1
    · simp [Value.ownBlock] at hx; omega
theorem conv_bufG {w : World} {po : Option Addr} {pc : Nat} {s : ByteArray} (h : OwnG w 5 1 (.slice po s.size pc) s.size (Lib.strCells s)) :
    (convert 30 9 (.slice po s.size pc)).run Try.prog w = .ok (.string s) w := by
  rcases h with h | ⟨g, hv, hl, hg, hc⟩
  · exact conv_buf h
  · injection hv with h1 h2 h3
    subst h1
    have := run_convert_bytes_arg (P := Try.prog) w 30 5 Try.underlying30 Try.underlying5 g 0 s.size pc (s.data.toList.map fun x => (x.toNat : Int)) (by rw [List.length_map, Array.length_toList]; rfl) (fun i hi => by
      have hc := hc i (.int .u8 ((s.data.toList.map fun x => (x.toNat : Int)).getD i 0)) (by
        unfold Lib.strCells
        have hil : i < s.data.toList.length := by rw [Array.length_toList]; exact hi
        rw [List.getElem?_map, List.getD_eq_getElem?_getD, List.getElem?_map, List.getElem?_eq_getElem hil]; rfl)
      rwa [Addr.add_lit] at hc) 9 Try.underlying9
    rw [this, strNums]
set_option maxHeartbeats 2000000 in
/-- put: so many bytes of a number behind a buffer. -/
theorem put_g (w : World) (F : List Nat) (o : Value) (s : ByteArray) (n : Nat) (k : Nat) (h : BufG o s w F) (hs : s.size ≤ 140737488350000) (hn : n ≤ 140737488355328) (hk : k ≤ 8) :
    Calls Try.prog 66 #[o, .int .i64 n, .int .i64 k] w fun e w' => ∃ po pc, e = .returned (.slice po (s.size + k) pc) ∧ To (BufG (.slice po (s.size + k) pc) (s ++ numS n k)) F w w' := by
  obtain ⟨i0, hi, hz0, hz1, hz2⟩ := info_parts infoByte
  have Hi := Lib.hid (And.intro hi (And.intro hz0 (And.intro hz1 hz2)))
  clear hi hz0 hz1 hz2
  obtain ⟨po, pc, rfl⟩ := ownG_form h.1
  have H := Lib.hid h
  clear h
  go_enter Try.func66, Try.ntmps66
  go_wp2_with fail
  go_loopw [0, 9] (fun b i wr => ∃ j : Nat, j ≤ k ∧ i = .int .i64 j ∧ ∃ qo qc, b = .slice qo (s.size + j) qc ∧ To (BufG (.slice qo (s.size + j) qc) (s ++ numS n j)) F w wr) (fun _ i _ => k - (intOf i).toNat)
  case atStart => exact ⟨0, by omega, rfl, po, pc, rfl, by
    have e : s ++ numS n 0 = s := by show s ++ ByteArray.empty = s; simp
    rw [e]; exact To.refl H.out⟩
  case round =>
    obtain ⟨j, hj, rfl, qo, qc, rfl, ht⟩ := hrel
    have Ht := Lib.hid ht
    clear ht
    by_cases hlt : j < k
    · obtain ⟨F', hB, hkk, hsub⟩ := Ht.out
      obtain ⟨hrow, rfl⟩ := hB
      have hsz : (s ++ numS n j).size = s.size + j := by rw [ByteArray.size_append, numS_size]
      rw [hsz] at hrow
      have Hrow := Lib.hid hrow
      have hml : n / 256 ^ j ≤ 140737488355328 := Nat.le_trans (Nat.div_le_self _ _) hn
      have hval : (n : Int) / 2 ^ (8 * j) % 256 = ((n / 256 ^ j : Nat) : Int) % 256 := by
        have e : ((n / 256 ^ j : Nat) : Int) = (n : Int) / 2 ^ (8 * j) := by
          rw [show (256 : Nat) ^ j = 2 ^ (8 * j) by rw [Nat.pow_mul]]; simp
        rw [e]
      have Hval := Lib.hid hval
      have hwl := hkk.size
      clear hrow hval
      go_wp2_with (at_builtin; refine wpList_appendG _ rfl _ _ 30 rfl 5 i0 _ 1 1 Try.underlying30 Hi.out.1 Hi.out.2.1 Hi.out.2.2.1 Hi.out.2.2.2 rfl (by decide) _ _ _ rfl (Hrow.out.keep (Keep.alloc [] _ _) (by simp)) ⟨wr.heap.size, 0, none⟩ 1 1 [.int .u8 ((n : Int) / 2 ^ (8 * j) % 256)] rfl rfl (one_news _ _ _) ?c2 (by decide) ?c3 ?c4 ?_)
      case c2 => intro u hu; simp at hu; subst hu; rfl
      case c3 => unfold maxLen; omega
      case c4 => omega
      intro g cap wa hoa hga hfa
      have hka : Keep (Value.slice qo (s.size + j) qc).ownBlock.toList wr wa := (Keep.alloc _ _ _).trans (Keep.grown hga (fun k hk => by rw [hk]; simp)) (fun x hx => .inl hx)
      have hnew : To (BufG (.slice (some ⟨g, 0, none⟩) (s.size + (j + 1)) cap) (s ++ numS n (j + 1))) F w wa := by
        refine Ht.out.trans fun F' hF' => ?_
        obtain ⟨_, rfl⟩ := hF'
        refine ⟨_, ⟨?_, rfl⟩, hka, fun x hx => ?_⟩
        · have e1 : s ++ numS n (j + 1) = (s ++ numS n j) ++ oneS (((n / 256 ^ j : Nat) : Int) % 256) := by show s ++ (numS n j ++ _) = _; rw [ByteArray.append_assoc]
          rw [e1, ← strCells_app, ByteArray.size_append, hsz, oneS_size, strCells_one _ (by omega) (by omega), ← Hval.out]
          exact .inl hoa
        · simp [Value.ownBlock] at hx
          subst hx
          rcases hfa with h | h
          · left; rw [← h]; simp
          · exact .inr (Nat.le_of_succ_le (by simpa using h))
      have Hnew := Lib.hid hnew
      clear hnew hka hfa hga hoa
      go_wp2_with fail
      go_roundw
      case rel => exact ⟨j + 1, by omega, by go_num, _, _, rfl, Hnew.out⟩
      case measure => simp [intOf]; omega
    · obtain rfl : j = k := by omega
      go_wp2_with fail
      go_ret
      exact ⟨_, _, rfl, Ht.out⟩
set_option maxHeartbeats 2000000 in
theorem padded_g (w : World) (F : List Nat) (o : Value) (s : ByteArray) (h : BufG o s w F) (hs : s.size ≤ 140737488350000) :
    Calls Try.prog 67 #[o] w fun e w' => e = .returned (.string (padS s)) ∧ Keep [] w w' := by
  obtain ⟨po, pc, rfl⟩ := ownG_form h.1
  have hcv : ∀ n, (convert 30 9 (.slice po s.size pc)).run Try.prog (Wk w n) = .ok (.string s) (Wk w n) := fun n => conv_bufG ((bufG_stab _ _).keep h n.k (by simp)).1
  have hpn : padN s.size < 128 := Nat.mod_lt _ (by decide)
  have hr : ((128 - (s.size : Int) % 128) % 128) = ((padN s.size : Nat) : Int) := by unfold padN; omega
  have Hrp : Hid (∀ n, Calls Try.prog 76 #[.string ⟨#[0]⟩, .int .i64 ((padN s.size : Nat) : Int)] (Wk w n) fun e w' => e = .returned (.string (zerosS (padN s.size))) ∧ ∃ m, w' = Wk w m) := fun n => quiet_pure n (by
    have := Try.strings_Repeat ⟨#[0]⟩ (padN s.size) (Wk w n) (by omega) (by show 1 * _ ≤ _; omega)
    rwa [rep_zero] at this)
  have hzz : (zerosS (padN s.size)).size ≤ 128 := by rw [zerosS_size]; omega
  have Hps : Hid (padS s = s ++ zerosS (padN s.size)) := rfl
  generalize padN s.size = p at *
  generalize zerosS p = z at *
  clear h
  go_enter Try.func67, Try.ntmps67
  go_wp2_with fail
  rw [hr]
  clear hr
  refine wp_region_keep (by kernel_rfl) (by kernel_rfl) ?_
  repeat (first
    | go_big_quiet_skip
    | (go_big_quiet_want; go_big_quiet_op; first | go_big_quiet_on | go_big_quiet_call (first
      | (go_at_call 76; exact Hrp.out _))))
  refine wpQuiet_nil ?_
  rintro _ ⟨⟨w1, hk⟩, rfl⟩
  go_wp2_with fail
  go_ret
  exact ⟨by rw [Hps.out]; rfl, hk⟩

theorem magic_cells : Lib.strCells magicS = [.int .u8 86, .int .u8 71, .int .u8 74, .int .u8 49] := rfl
end Go.Proofs.Ytgmggmpkbfljfaa
