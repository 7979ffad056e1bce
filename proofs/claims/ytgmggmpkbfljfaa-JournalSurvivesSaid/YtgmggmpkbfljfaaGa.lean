import Derived.Test.YtgmggmpkbfljfaaEa
import Derived.Lib.SmallJoins
import Derived.Lib.SlBytesConst
/- Rows that are only read; the bytes of a group and of a page. -/
set_option linter.unusedVariables false
set_option linter.unusedSimpArgs false
set_option maxRecDepth 100000
namespace Go.Proofs.Ytgmggmpkbfljfaa
open Go.RowKit
/-- A row of one-cell values at some place, that is only read. -/
def RowR (w : World) (sv : Value) (xs : List Value) : Prop :=
  (sv = .slice none 0 0 ∧ xs = []) ∨ ∃ g o c, sv = .slice (some ⟨g, o, none⟩) xs.length c ∧ g < w.heap.size ∧ ∀ i v, xs[i]? = some v → w.cell? ⟨g, o + i, none⟩ = some v
def rowF : Value → List Nat
  | .slice (some a) _ _ => [a.block]
  | _ => []
theorem cell_same {w w' : World} {a : Addr} (h : w'.heap[a.block]? = w.heap[a.block]?) : w'.cell? a = w.cell? a := by
  unfold World.cell?; rw [h]
theorem RowR.keep {w w' : World} {sv : Value} {xs : List Value} {G : List Nat} (h : RowR w sv xs) (hk : Keep G w w') (hd : ∀ x ∈ rowF sv, x ∉ G) : RowR w' sv xs := by
  rcases h with h | ⟨g, o, c, rfl, hg, hc⟩
  · exact .inl h
  · refine .inr ⟨g, o, c, rfl, Nat.lt_of_lt_of_le hg hk.size, fun i v hi => ?_⟩
    rw [cell_same (w := w) (hk.block g hg (hd g (by simp [rowF])))]
    exact hc i v hi
theorem RowR.keep0 {w w' : World} {sv : Value} {xs : List Value} (h : RowR w sv xs) (hk : Keep [] w w') : RowR w' sv xs := h.keep hk (by simp)
theorem RowR.lt {w : World} {sv : Value} {xs : List Value} (h : RowR w sv xs) : ∀ x ∈ rowF sv, x < w.heap.size := by
  rcases h with ⟨rfl, _⟩ | ⟨g, o, c, rfl, hg, hc⟩
  · simp [rowF]
  · simpa [rowF] using hg
theorem RowR.form {w : World} {sv : Value} {xs : List Value} (h : RowR w sv xs) : ∃ ao c, sv = .slice ao xs.length c := by
  rcases h with ⟨rfl, rfl⟩ | ⟨g, o, c, rfl, hg, hc⟩
  · exact ⟨_, _, rfl⟩
  · exact ⟨_, _, rfl⟩
theorem RowR.elem {w : World} {sv : Value} {xs : List Value} (h : RowR w sv xs) (hn : 0 < xs.length) : ∃ g o c, sv = .slice (some ⟨g, o, none⟩) xs.length c ∧ ∀ i v, xs[i]? = some v → w.cell? ⟨g, o + i, none⟩ = some v := by
  rcases h with ⟨rfl, rfl⟩ | ⟨g, o, c, rfl, hg, hc⟩
  · simp at hn
  · exact ⟨g, o, c, rfl, hc⟩
theorem RowR.of_own {w : World} {e : TypeId} {v : Value} {n : Nat} {xs : List Value} (h : w.ownsRow 0 e 1 v n xs) : RowR w v xs := by
  have hl : xs.length = n := by have := h.1; omega
  rcases h.2 with ⟨rfl, h0⟩ | ⟨g, cap, cur, rfl, hb, hgg, _⟩
  · left; exact ⟨rfl, List.eq_nil_of_length_eq_zero (by omega)⟩
  · right
    refine ⟨g, 0, cap, by rw [hl], lt_of_heap hgg, fun i v hi => ?_⟩
    have := h.cells (g := g) rfl i v hi
    rwa [Addr.add_lit] at this
def scells (l : List ByteArray) : List Value := l.map .string
theorem scells_length (l : List ByteArray) : (scells l).length = l.length := by simp [scells]
theorem scells_snoc (l : List ByteArray) (x : ByteArray) : scells l ++ [.string x] = scells (l ++ [x]) := by simp [scells]
theorem scells_get (l : List ByteArray) (i : Nat) (h : i < l.length) : (scells l)[i]? = some (.string l[i]) := by simp [scells, h]
/-! ### the bytes -/
def catS : List ByteArray → ByteArray
  | [] => ⟨#[]⟩
  | s :: l => s ++ catS l
theorem catS_snoc (l : List ByteArray) (s : ByteArray) : catS (l ++ [s]) = catS l ++ s := by
  induction l with
  | nil => show s ++ ByteArray.empty = ByteArray.empty ++ s; simp
  | cons x l ih => show x ++ catS (l ++ [s]) = x ++ catS l ++ s; rw [ih, ByteArray.append_assoc]
theorem catS_app (l m : List ByteArray) : catS (l ++ m) = catS l ++ catS m := by
  induction l with
  | nil => show catS m = ByteArray.empty ++ catS m; simp
  | cons x l ih => show x ++ catS (l ++ m) = x ++ catS l ++ catS m; rw [ih, ByteArray.append_assoc]
def lenS (r : ByteArray) : ByteArray := numS r.size 4
theorem take_succ_get {α : Type} (l : List α) (k : Nat) (h : k < l.length) : l.take (k + 1) = l.take k ++ [l[k]] := by
  rw [List.take_add_one, List.getElem?_eq_getElem h]; rfl
def sumS (l : List ByteArray) : Nat := (l.map (·.size)).sum
theorem catS_size (l : List ByteArray) : (catS l).size = sumS l := by
  induction l with
  | nil => rfl
  | cons x l ih => show (x ++ catS l).size = _; rw [ByteArray.size_append, ih]; rfl
theorem lens_size (l : List ByteArray) : (catS (l.map lenS)).size = 4 * l.length := by
  induction l with
  | nil => rfl
  | cons x l ih => show (lenS x ++ catS (l.map lenS)).size = _; rw [ByteArray.size_append, ih, lenS, numS_size, List.length_cons]; omega
theorem sumS_le (l : List ByteArray) (h : ∀ s ∈ l, s.size ≤ 16384) : sumS l ≤ 16384 * l.length := by
  induction l with
  | nil => simp [sumS]
  | cons x l ih =>
    have h1 := ih fun s hs => h s (List.mem_cons_of_mem _ hs)
    have h2 := h x (List.mem_cons_self ..)
    show x.size + sumS l ≤ _
    rw [List.length_cons]; omega
theorem sumS_take (l : List ByteArray) (k : Nat) : sumS (l.take k) ≤ sumS l := by
  have := congrArg sumS (List.take_append_drop k l)
  unfold sumS at *
  rw [List.map_append, List.sum_append] at this
  omega
theorem sumS_snoc (l : List ByteArray) (s : ByteArray) : sumS (l ++ [s]) = sumS l + s.size := by simp [sumS]
/-- What stands ahead of the records. -/
def headS (n : Nat) (l : List ByteArray) : ByteArray := numS n 8 ++ numS l.length 4 ++ catS (l.map lenS)
def rawS (n : Nat) (l : List ByteArray) : ByteArray := headS n l ++ catS l
def encS (n : Nat) (l : List ByteArray) : ByteArray := padS (rawS n l)
theorem headS_size (n : Nat) (l : List ByteArray) : (headS n l).size = 12 + 4 * l.length := by unfold headS; rw [ByteArray.size_append, ByteArray.size_append, numS_size, numS_size, lens_size]
theorem rawS_size (n : Nat) (l : List ByteArray) : (rawS n l).size = 12 + 4 * l.length + sumS l := by unfold rawS; rw [ByteArray.size_append, headS_size, catS_size]
def secsN (l : List ByteArray) : Nat := (12 + 4 * l.length + sumS l + 127) / 128
theorem padS_size (s : ByteArray) : (padS s).size = (s.size + 127) / 128 * 128 := by
  unfold padS padN
  rw [ByteArray.size_append, zerosS_size]; omega
theorem encS_size (n : Nat) (l : List ByteArray) : (encS n l).size = secsN l * 128 := by unfold encS secsN; rw [padS_size, rawS_size]
def magicS : ByteArray := ⟨#[86, 71, 74, 49]⟩
def pageS (g f p k : Nat) : ByteArray := padS (magicS ++ numS g 8 ++ numS f 8 ++ numS p 8 ++ numS k 4)
end Go.Proofs.Ytgmggmpkbfljfaa

/- encode, encoded and page.encode. -/
set_option linter.unusedVariables false
set_option linter.unusedSimpArgs false
set_option maxRecDepth 100000
namespace Go.Proofs.Ytgmggmpkbfljfaa
open Go.RowKit
/-- A buffer made since w. -/
structure BufB (w wr : World) (o : Value) (n : Nat) (s : ByteArray) : Prop where
  row : wr.ownsRow w.heap.size 5 1 o n (Lib.strCells s)
  keep : Keep [] w wr
theorem BufB.size {w wr : World} {o : Value} {n : Nat} {s : ByteArray} (h : BufB w wr o n s) : s.size = n := by
  have := h.row.1
  rw [Lib.strCells_length] at this; omega
theorem BufB.bufH {w wr : World} {o : Value} {n : Nat} {s : ByteArray} (h : BufB w wr o n s) : BufH o s wr o.ownBlock.toList := by
  have hs := h.size
  subst hs
  refine ⟨⟨h.row.1, ?_⟩, rfl⟩
  rcases h.row.2 with h | ⟨g, cap, cur, hv, hb, rest⟩
  · exact .inl h
  · exact .inr ⟨g, cap, cur, hv, Nat.zero_le _, rest⟩
theorem BufB.form {w wr : World} {o : Value} {n : Nat} {s : ByteArray} (h : BufB w wr o n s) : ∃ po pc, o = .slice po n pc := by
  have hs := h.size
  subst hs
  exact own_form h.bufH.1
theorem BufB.of_to {w wr w' : World} {o o' : Value} {n m : Nat} {s s' : ByteArray} (h : BufB w wr o n s) (ht : To (BufH o' s') o.ownBlock.toList wr w') (hm : m = s'.size) : BufB w w' o' m s' := by
  subst hm
  obtain ⟨F', ⟨hr, rfl⟩, hk, hs⟩ := ht
  have hlow : ∀ x ∈ o.ownBlock.toList, w.heap.size ≤ x := by
    intro x hx
    rcases h.row.2 with ⟨rfl, _⟩ | ⟨g, cap, cur, rfl, hb, rest⟩
    · simp [Value.ownBlock] at hx
    · simp [Value.ownBlock] at hx; omega
  refine ⟨⟨hr.1, ?_⟩, h.keep.trans hk (fun x hx => .inr (hlow x hx))⟩
  rcases hr.2 with h1 | ⟨g, cap, cur, hv, _, rest⟩
  · exact .inl h1
  · refine .inr ⟨g, cap, cur, hv, ?_, rest⟩
    rcases hs g (by rw [hv]; simp [Value.ownBlock]) with h1 | h1
    · exact hlow g h1
    · exact Nat.le_trans h.keep.size h1
theorem bufB_nil (w : World) : BufB w w (.slice none 0 0) 0 ⟨#[]⟩ := ⟨⟨rfl, .inl ⟨rfl, rfl⟩⟩, Keep.refl _ _⟩
theorem BufB.app {w wr w' : World} {o o' : Value} {n m : Nat} {s t : ByteArray} (h : BufB w wr o n s) (hr : w'.ownsRow w.heap.size 5 1 o' m (Lib.strCells s ++ Lib.strCells t)) (hg : wr.grownBy w' o.ownBlock) : BufB w w' o' m (s ++ t) := by
  refine ⟨by rw [← strCells_app]; exact hr, h.keep.trans (Keep.grown hg (F := o.ownBlock.toList) (fun k hk => by rw [hk]; simp)) (fun x hx => .inr ?_)⟩
  rcases h.row.2 with ⟨rfl, _⟩ | ⟨g, cap, cur, rfl, hb, rest⟩
  · simp [Value.ownBlock] at hx
  · simp [Value.ownBlock] at hx; omega
theorem put_b (w wr : World) (o : Value) (m : Nat) (s : ByteArray) (n k q : Nat) (h : BufB w wr o m s) (hs : m ≤ 140737488350000) (hn : n ≤ 140737488355328) (hk : k ≤ 8) (hq : q = m + k) :
    Calls Try.prog 66 #[o, .int .i64 n, .int .i64 k] wr fun e w' => ∃ po pc, e = .returned (.slice po q pc) ∧ BufB w w' (.slice po q pc) q (s ++ numS n k) := by
  have hz := h.size
  refine (put_c wr _ o s n k h.bufH (by omega) hn hk).mono ?_
  rintro e w' ⟨po, pc, he, ht⟩
  subst hq
  rw [hz] at he ht
  exact ⟨po, pc, he, h.of_to ht (by rw [ByteArray.size_append, numS_size]; omega)⟩
theorem padded_b (w wr : World) (o : Value) (m : Nat) (s : ByteArray) (h : BufB w wr o m s) (hs : m ≤ 140737488350000) :
    Calls Try.prog 67 #[o] wr fun e w' => e = .returned (.string (padS s)) ∧ Keep [] w w' := by
  have hz := h.size
  exact (padded_c wr _ o s h.bufH (by omega)).mono fun e w' hk => ⟨hk.1, h.keep.trans0 hk.2⟩
theorem empty_app (s : ByteArray) : (⟨#[]⟩ : ByteArray) ++ s = s := by show ByteArray.empty ++ s = s; simp
theorem app_empty (s : ByteArray) : s ++ (⟨#[]⟩ : ByteArray) = s := by show s ++ ByteArray.empty = s; simp
theorem lens_snoc (l : List ByteArray) (k : Nat) (h : k < l.length) : catS ((l.take (k + 1)).map lenS) = catS ((l.take k).map lenS) ++ numS (l[k]).size 4 := by
  rw [take_succ_get l k h, List.map_append, List.map_cons, List.map_nil, catS_snoc]; rfl
theorem cat_snoc (l : List ByteArray) (k : Nat) (h : k < l.length) : catS (l.take (k + 1)) = catS (l.take k) ++ l[k] := by
  rw [take_succ_get l k h, catS_snoc]
set_option maxHeartbeats 4000000 in
theorem encode_c (w : World) (n : Nat) (sv : Value) (l : List ByteArray) (h : RowR w sv (scells l)) (hn : n ≤ 140737488355328) (hl : l.length ≤ 256) (hs : ∀ s ∈ l, s.size ≤ 16384) :
    Calls Try.prog 45 #[.int .i64 n, sv] w fun e w' => e = .returned (.string (encS n l)) ∧ Keep [] w w' := by
  have hsum := sumS_le l hs
  obtain ⟨i0, hi, hz0, hz1, hz2⟩ := info_parts infoByte
  have Hi := Lib.hid (And.intro hi (And.intro hz0 (And.intro hz1 hz2)))
  clear hi hz0 hz1 hz2
  obtain ⟨ao, c, rfl⟩ := h.form
  have HE : Hid (0 < l.length → ∃ g o, ao = some ⟨g, o, none⟩ ∧ ∀ wr, Keep [] w wr → ∀ k (hk : k < l.length), wr.cell? ⟨g, o + k, none⟩ = some (.string l[k])) := by
    intro hn
    have hn' : 0 < (scells l).length := by rw [scells_length]; exact hn
    obtain ⟨g, o, c', he, _⟩ := h.elem hn'
    injection he with he
    refine ⟨g, o, he, fun wr hk k hkl => ?_⟩
    obtain ⟨g2, o2, c2, he2, hc⟩ := (h.keep0 hk).elem hn'
    injection he2 with he2
    rw [he] at he2
    injection he2 with he2
    injection he2 with h1 h2
    subst h1; subst h2
    exact hc k _ (scells_get l k hkl)
  rw [scells_length]
  have HS := Lib.hid hs
  clear h hs
  obtain ⟨len, hlen⟩ : ∃ len, l.length = len := ⟨_, rfl⟩
  rw [hlen] at hl hsum ⊢
  have Hlen := Lib.hid hlen
  clear hlen
  go_enter Try.func45, Try.ntmps45
  go_wp2_with fail
  refine (put_b w w _ 0 _ n 8 8 (bufB_nil w) (by omega) hn (by omega) rfl).mono ?_
  rintro e w1 ⟨po, pc, rfl, h1⟩
  have H1 := Lib.hid h1
  clear h1
  go_wp2_with fail
  refine (put_b w w1 _ 8 _ len 4 12 H1.out (by omega) (by omega) (by omega) rfl).mono ?_
  rintro e w2 ⟨qo, qc, rfl, h2⟩
  rw [empty_app] at h2
  have H2 := Lib.hid h2
  clear h2
  go_wp2_with fail
  go_loopw [5, 17] (fun b i wr => ∃ k : Nat, k ≤ len ∧ i = .int .i64 k ∧ ∃ qo qc, b = .slice qo (12 + 4 * k) qc ∧ BufB w wr (.slice qo (12 + 4 * k) qc) (12 + 4 * k) (numS n 8 ++ numS len 4 ++ catS ((l.take k).map lenS))) (fun _ i _ => len - (intOf i).toNat)
  case atStart => exact ⟨0, by omega, rfl, qo, qc, rfl, by
    show BufB w w2 _ 12 (_ ++ catS ((l.take 0).map lenS))
    rw [List.take_zero, List.map_nil, catS, app_empty]; exact H2.out⟩
  case round =>
    obtain ⟨k, hk, rfl, qo, qc, rfl, hb⟩ := hrel
    have Hb := Lib.hid hb
    clear hb
    by_cases hlt : k < len
    · have hkl : k < l.length := by rw [Hlen.out]; exact hlt
      obtain ⟨g, o, rfl, hcell⟩ := HE.out (Nat.lt_of_le_of_lt (Nat.zero_le _) hkl)
      have hc := hcell wr Hb.out.keep k hkl
      have hrs := HS.out l[k] (List.getElem_mem _)
      have Hsn : Hid (numS n 8 ++ numS len 4 ++ catS ((l.take k).map lenS) ++ numS (l[k]).size 4 = numS n 8 ++ numS len 4 ++ catS ((l.take (k + 1)).map lenS)) := by
        show _ = _
        rw [lens_snoc l k hkl, ByteArray.append_assoc]
      generalize l[k] = r at *
      go_wp2_with fail
      refine (put_b w wr _ (12 + 4 * k) _ r.size 4 (12 + 4 * (k + 1)) Hb.out (by omega) (by omega) (by omega) (by omega)).mono ?_
      rintro e w3 ⟨po, pc, rfl, h3⟩
      rw [Hsn.out] at h3
      have H3 := Lib.hid h3
      clear h3
      go_wp2_with fail
      go_roundw
      case rel => exact ⟨k + 1, by omega, by go_num, _, _, rfl, H3.out⟩
      case measure => simp [intOf]; omega
    · obtain rfl : k = len := by omega
      have hhd : numS n 8 ++ numS k 4 ++ catS ((l.take k).map lenS) = headS n l := by
        unfold headS; rw [Hlen.out, List.take_of_length_le (by rw [Hlen.out]; exact Nat.le_refl _)]
      rw [hhd] at Hb
      go_wp2_with fail
      go_loopw [5, 28] (fun b i wr => ∃ j : Nat, j ≤ k ∧ i = .int .i64 j ∧ ∃ z qo qc, z ≤ 12 + 4 * k + sumS (l.take j) ∧ b = .slice qo z qc ∧ BufB w wr (.slice qo z qc) z (headS n l ++ catS (l.take j))) (fun _ i _ => k - (intOf i).toNat)
      case atStart => exact ⟨0, by omega, rfl, _, qo, qc, by simp, rfl, by
        rw [List.take_zero, catS, app_empty]; exact Hb.out⟩
      case round =>
        obtain ⟨j, hj, rfl, z, qo, qc, hz, rfl, hb⟩ := hrel
        have Hc := Lib.hid hb
        have hts := sumS_take l j
        clear hb
        by_cases hlt : j < k
        · have hkl : j < l.length := by rw [Hlen.out]; exact hlt
          obtain ⟨g, o, rfl, hcell⟩ := HE.out (Nat.lt_of_le_of_lt (Nat.zero_le _) hkl)
          have hc := hcell wr Hc.out.keep j hkl
          have hrs := HS.out l[j] (List.getElem_mem _)
          have Hsn : Hid (headS n l ++ catS (l.take j) ++ l[j] = headS n l ++ catS (l.take (j + 1))) := by
            show _ = _
            rw [cat_snoc l j hkl, ByteArray.append_assoc]
          have hzz : z + l[j].size ≤ 12 + 4 * k + sumS (l.take (j + 1)) := by rw [take_succ_get l j hkl, sumS_snoc]; omega
          generalize l[j] = r at *
          have hsz := Hc.out.keep.size
          go_wp2_with (at_builtin; refine Lib.wpList_append_own_string _ rfl _ _ 30 9 rfl w.heap.size 5 i0 Try.underlying30 Try.underlying9 Hi.out.1 Hi.out.2.1 Hi.out.2.2.1 Hi.out.2.2.2 _ _ _ rfl Hc.out.row r rfl ?c3 ?c4 ?c5 ?_)
          case c3 => unfold maxLen; omega
          case c4 => omega
          case c5 => omega
          intro v' w3 hown hgrow _
          have h3 := Hc.out.app hown hgrow
          rw [Hsn.out] at h3
          obtain ⟨po, pc, rfl⟩ := h3.form
          have H3 := Lib.hid h3
          clear h3 hown hgrow
          go_wp2_with fail
          go_roundw
          case rel => exact ⟨j + 1, by omega, by go_num, _, _, _, hzz, rfl, H3.out⟩
          case measure => simp [intOf]; omega
        · obtain rfl : j = k := by omega
          rw [List.take_of_length_le (Nat.le_of_eq Hlen.out)] at Hc
          go_wp2_with fail
          refine (padded_b w wr _ _ _ Hc.out (by omega)).mono ?_
          rintro e w4 ⟨rfl, hk4⟩
          go_wp2_with fail
          go_ret
          exact ⟨rfl, hk4⟩
end Go.Proofs.Ytgmggmpkbfljfaa

/- encoded of the model, and page.encode. -/
set_option linter.unusedVariables false
set_option linter.unusedSimpArgs false
set_option maxRecDepth 100000
namespace Go.Proofs.Ytgmggmpkbfljfaa
open Go.RowKit
theorem RowR.cells {w : World} {ao : Option Addr} {n c : Nat} {l : List ByteArray} (h : RowR w (.slice ao n c) (scells l)) :
    0 < l.length → ∃ g o, ao = some ⟨g, o, none⟩ ∧ ∀ wr, Keep [] w wr → ∀ k (hk : k < l.length), wr.cell? ⟨g, o + k, none⟩ = some (.string l[k]) := by
  intro hn
  have hn' : 0 < (scells l).length := by rw [scells_length]; exact hn
  obtain ⟨g, o, c', he, _⟩ := h.elem hn'
  injection he with he
  refine ⟨g, o, he, fun wr hk k hkl => ?_⟩
  obtain ⟨g2, o2, c2, he2, hc⟩ := (h.keep0 hk).elem hn'
  injection he2 with he2
  rw [he] at he2
  injection he2 with he2
  injection he2 with h1 h2
  subst h1; subst h2
  exact hc k _ (scells_get l k hkl)
theorem number_k (n k : Nat) (hn : n ≤ 140737488355328) (hk : k ≤ 8) (w : World) (m : KW w) :
    Calls Try.prog 41 #[.int .i64 n, .int .i64 k] (Wk w m) fun e w' => e = .returned (.string (numS n k)) ∧ ∃ m, w' = Wk w m := quiet_pure m (number_c n k hn hk _)
set_option maxHeartbeats 4000000 in
theorem encoded_c (w : World) (n : Nat) (sv : Value) (l : List ByteArray) (h : RowR w sv (scells l)) (hn : n ≤ 140737488355328) (hl : l.length ≤ 256) (hs : ∀ s ∈ l, s.size ≤ 16384) :
    Calls Try.prog 20 #[.int .i64 n, sv] w fun e w' => e = .returned (.string (encS n l)) ∧ Keep [] w w' := by
  have hsum := sumS_le l hs
  obtain ⟨ao, c, rfl⟩ := h.form
  have HE := Lib.hid h.cells
  rw [scells_length]
  have HS := Lib.hid hs
  clear h hs
  obtain ⟨len, hlen⟩ : ∃ len, l.length = len := ⟨_, rfl⟩
  rw [hlen] at hl hsum ⊢
  have Hlen := Lib.hid hlen
  clear hlen
  have HN1 := Lib.hid (number_c n 8 hn (by omega))
  have HN2 := Lib.hid (number_c len 4 (by omega) (by omega))
  have hz1 := numS_size n 8
  have hz2 := numS_size len 4
  have Hh : Hid (numS n 8 ++ numS len 4 ++ catS (l.map lenS) = headS n l) := by show _ = _; rw [← Hlen.out]; rfl
  generalize hN1 : numS n 8 = N1 at *
  generalize hN2 : numS len 4 = N2 at *
  clear hN1 hN2
  go_enter Try.func20, Try.ntmps20
  go_wp2_with fail
  refine (HN1.out w).mono ?_
  rintro e w0 ⟨rfl, hb0⟩
  have hk0 := Keep.of_below (F := []) hb0
  clear hb0
  have Hk0 := Lib.hid hk0
  clear hk0
  go_wp2_with fail
  refine (HN2.out w0).mono ?_
  rintro e w1 ⟨rfl, hb1⟩
  have Hk1 := Lib.hid (Hk0.out.belowPast hb1)
  clear hb1
  go_wp2_with fail
  go_loopw [5, 6] (fun b i wr => ∃ k : Nat, k ≤ len ∧ i = .int .i64 k ∧ ∃ s : ByteArray, b = .string s ∧ s = N1 ++ N2 ++ catS ((l.take k).map lenS) ∧ Keep [] w wr) (fun _ i _ => len - (intOf i).toNat)
  case atStart => exact ⟨0, by omega, rfl, _, rfl, by rw [List.take_zero, List.map_nil, catS, app_empty], Hk1.out⟩
  case round =>
    obtain ⟨k, hk, rfl, s, rfl, hs, hkr⟩ := hrel
    have Hkr := Lib.hid hkr
    have hsz : s.size = 12 + 4 * k := by
      rw [hs, ByteArray.size_append, ByteArray.size_append, hz1, hz2, lens_size, List.length_take, Hlen.out, Nat.min_eq_left hk]
    have Hs := Lib.hid hs
    clear hkr hs
    by_cases hlt : k < len
    · have hkl : k < l.length := by rw [Hlen.out]; exact hlt
      obtain ⟨g, o, rfl, hcell⟩ := HE.out (Nat.lt_of_le_of_lt (Nat.zero_le _) hkl)
      have hc := hcell wr Hkr.out k hkl
      have hrs := HS.out l[k] (List.getElem_mem _)
      have Hsn : Hid (s ++ numS (l[k]).size 4 = N1 ++ N2 ++ catS ((l.take (k + 1)).map lenS)) := by
        show _ = _
        rw [lens_snoc l k hkl, ← ByteArray.append_assoc, ← Hs.out]
      generalize l[k] = r at *
      have hz3 := numS_size r.size 4
      have HN3 := Lib.hid (number_c r.size 4 (by omega) (by omega))
      generalize numS r.size 4 = N3 at *
      clear Hs
      go_wp2_with fail
      refine (HN3.out wr).mono ?_
      rintro e w3 ⟨rfl, hb3⟩
      have Hb3 := Lib.hid hb3
      clear hb3
      go_wp2_with fail
      go_roundw
      case rel => exact ⟨k + 1, by omega, by go_num, _, rfl, Hsn.out, Hkr.out.belowPast Hb3.out⟩
      case measure => simp [intOf]; omega
    · obtain rfl : k = len := by omega
      rw [List.take_of_length_le (Nat.le_of_eq Hlen.out), Hh.out] at Hs
      go_wp2_with fail
      go_loopw [5, 7] (fun b i wr => ∃ j : Nat, j ≤ k ∧ i = .int .i64 j ∧ ∃ t : ByteArray, b = .string t ∧ t = headS n l ++ catS (l.take j) ∧ Keep [] w wr) (fun _ i _ => k - (intOf i).toNat)
      case atStart => exact ⟨0, by omega, rfl, _, rfl, by rw [List.take_zero, catS, app_empty]; exact Hs.out, Hkr.out⟩
      case round =>
        obtain ⟨j, hj, rfl, t, rfl, ht, hkq⟩ := hrel
        have Hkq := Lib.hid hkq
        have hts := sumS_take l j
        have htz : t.size = 12 + 4 * k + sumS (l.take j) := by rw [ht, ByteArray.size_append, headS_size, catS_size, Hlen.out]
        have Ht := Lib.hid ht
        clear hkq ht
        by_cases hlt : j < k
        · have hkl : j < l.length := by rw [Hlen.out]; exact hlt
          obtain ⟨g, o, rfl, hcell⟩ := HE.out (Nat.lt_of_le_of_lt (Nat.zero_le _) hkl)
          have hc := hcell wr Hkq.out j hkl
          have hrs := HS.out l[j] (List.getElem_mem _)
          have Hsn : Hid (t ++ l[j] = headS n l ++ catS (l.take (j + 1))) := by
            show _ = _
            rw [cat_snoc l j hkl, ← ByteArray.append_assoc, ← Ht.out]
          generalize l[j] = r at *
          go_wp2_with fail
          go_roundw
          case rel => exact ⟨j + 1, by omega, by go_num, _, rfl, Hsn.out, Hkq.out⟩
          case measure => simp [intOf]; omega
        · obtain rfl : j = k := by omega
          rw [List.take_of_length_le (Nat.le_of_eq Hlen.out)] at Ht
          go_wp2_with fail
          refine (paddedM_c wr t (by omega) (by omega)).mono ?_
          rintro e w4 ⟨rfl, hk4⟩
          go_wp2_with fail
          go_ret
          exact ⟨by rw [Ht.out]; rfl, Hkq.out.trans0 hk4⟩
end Go.Proofs.Ytgmggmpkbfljfaa

/- page.encode: a buffer that begins as a constant row. -/
set_option linter.unusedVariables false
set_option linter.unusedSimpArgs false
set_option maxRecDepth 100000
namespace Go.Proofs.Ytgmggmpkbfljfaa
open Go.RowKit
/-- A row of the call's own, or a full one that is only read. -/
def OwnG (w : World) (e : TypeId) (size : Nat) (v : Value) (n : Nat) (xs : List Value) : Prop :=
  w.ownsRow 0 e size v n xs ∨ ∃ g, v = .slice (some ⟨g, 0, none⟩) n n ∧ xs.length = n * size ∧ g < w.heap.size ∧ ∀ (j : Nat) u, xs[j]? = some u → w.cell? ((⟨g, 0, none⟩ : Addr).add j) = some u
theorem OwnG.keep {w w' : World} {e : TypeId} {size : Nat} {v : Value} {n : Nat} {xs : List Value} {F : List Nat} (h : OwnG w e size v n xs) (hk : Keep F w w') (hF : ∀ g, v.ownBlock = some g → g ∉ F) : OwnG w' e size v n xs := by
  rcases h with h | ⟨g, rfl, hl, hg, hc⟩
  · exact .inl (own_keep' h hk hF)
  · refine .inr ⟨g, rfl, hl, Nat.lt_of_lt_of_le hg hk.size, fun j u hj => ?_⟩
    have := hc j u hj
    rw [Addr.add_lit] at this ⊢
    rw [cell_same (w := w) (hk.block g hg (hF g rfl))]
    exact this
theorem ownG_form {w : World} {e : TypeId} {size : Nat} {v : Value} {n : Nat} {xs : List Value} (h : OwnG w e size v n xs) : ∃ po pc, v = .slice po n pc := by
  rcases h with h | ⟨g, rfl, _⟩
  · exact own_form h
  · exact ⟨_, _, rfl⟩
section
variable {P : Program} (w : World)
theorem run_append_ownG (t ty e : TypeId) (i : TypeInfo) (z : Value) (size bytes : Nat) (ht : P.underlying t = some (.slice e)) (hi : P.info? e = some i) (hz : i.zero = some z)
    (hsize : i.size = size) (hby : i.bytes = bytes) (hzs : z.cells.size = size) (hsz : 0 < size)
    (v : Value) (n : Nat) (xs : List Value) (hown : OwnG w e size v n xs)
    (a : Addr) (m c : Nat) (news : List Value) (hl : news.length = m * size) (hnews : ∀ j u, news[j]? = some u → w.cell? (a.add j) = some u) (h1 : ∀ u ∈ news, u.oneCell' = true)
    (hm : 0 < m) (h63 : n + m ≤ maxLen) (hbytes : (n + m) * bytes ≤ 140737488355328) :
    ∃ g cap w', (Builtin.append_ #[t, t] ty #[v, .slice (some a) m c]).run P w = .ok (.slice (some ⟨g, 0, none⟩) (n + m) cap) w' ∧ w'.ownsRow 0 e size (.slice (some ⟨g, 0, none⟩) (n + m) cap) (n + m) (xs ++ news) ∧ w.grownBy w' v.ownBlock ∧
      (some g = v.ownBlock ∨ w.heap.size ≤ g) := by
  rcases hown with hown | ⟨g, rfl, hx, hg, hc⟩
  · exact run_append_own2 (P := P) w t ty e i z size bytes ht hi hz hsize hby hzs hsz v n xs hown a m c news hl hnews h1 hm h63 hbytes
  · subst hsize
    subst hby
    have hsmall : n + m ≤ 9223372036854775807 := by simp only [maxLen] at h63; omega
    have hr := run_append_grow (P := P) w t ty e i z ht hi hz ⟨g, 0, none⟩ n n xs hx hc a m c news hl hnews (by omega) (by omega) (growslice_fits (by omega) hbytes)
    have hge := grownCap_ge w (n + m) n e
    have hcm : grownCap w (n + m) n e ≤ maxLen := grownCap_le_maxLen w (n + m) n e h63
    refine ⟨w.heap.size, _, _, hr, ⟨by rw [List.length_append, hx, hl, Nat.add_mul], .inr ⟨w.heap.size, _, _, rfl, Nat.zero_le _, heap_alloc_new w.drew _, hge, hcm, ?_, ?_⟩⟩, ⟨rfl, rfl, rfl, by simp, fun k hk _ => heap_alloc_old w.drew _ k hk⟩, .inr (Nat.le_refl _)⟩
    · simp only [Array.size_append, List.size_toArray, size_zeroCells, hzs, hx, hl, ← Nat.add_mul]
      congr 1
      omega
    · rw [Array.toList_append, Array.toList_append]
      rw [List.take_append_of_le_length (by simp [hx, hl, Nat.add_mul])]
      rw [List.take_of_length_le (by simp [hx, hl, Nat.add_mul])]
theorem wpList_appendG {ops : Array Oper} {rest : List Oper} {o : Oper} {a : Act} {Q : Exit → Act → World → Prop} (hgd : o.guard = none) (s x : Operand) (t : TypeId)
    (ho : o.op = .call { callee := .builtin .append, args := #[s, x], argTypes := #[t, t] })
    (e : TypeId) (i : TypeInfo) (z : Value) (size bytes : Nat) (ht : P.underlying t = some (.slice e)) (hi : P.info? e = some i) (hz : i.zero = some z)
    (hsize : i.size = size) (hby : i.bytes = bytes) (hzs : z.cells.size = size) (hsz : 0 < size)
    (v : Value) (n : Nat) (xs : List Value) (hs : a.eval s = v) (hown : OwnG w e size v n xs)
    (ad : Addr) (m c : Nat) (news : List Value) (hx : a.eval x = .slice (some ad) m c) (hl : news.length = m * size) (hnews : ∀ j u, news[j]? = some u → w.cell? (ad.add j) = some u) (h1 : ∀ u ∈ news, u.oneCell' = true)
    (hm : 0 < m) (h63 : n + m ≤ maxLen) (hbytes : (n + m) * bytes ≤ 140737488355328)
    (h : ∀ g cap w', w'.ownsRow 0 e size (.slice (some ⟨g, 0, none⟩) (n + m) cap) (n + m) (xs ++ news) → w.grownBy w' v.ownBlock → (some g = v.ownBlock ∨ w.heap.size ≤ g) → wpList P ops Q rest (a.put o.dst (.slice (some ⟨g, 0, none⟩) (n + m) cap)) w') : wpList P ops Q (o :: rest) a w := by
  refine wpList_plain hgd fun K hK => ?_
  obtain ⟨g, cap, w', hr, h2, h3, h4⟩ := run_append_ownG (P := P) w t o.type e i z size bytes ht hi hz hsize hby hzs hsz v n xs hown ad m c news hl hnews h1 hm h63 hbytes
  unfold Oper.wp execOp
  simp only [ho, resolve, invoke, builtin, Sem.run_bind, Sem.run_pure, Result.andThen_ok, List.map_toArray, List.map_cons, List.map_nil, hs, hx, hr]
  exact hK _ _ (h g cap w' h2 h3 h4)
end
def BufG (o : Value) (s : ByteArray) : HP := fun w F => OwnG w 5 1 o s.size (Lib.strCells s) ∧ F = o.ownBlock.toList
theorem bufG_stab (o : Value) (s : ByteArray) : Stab (BufG o s) where
  keep := by
    rintro w w' F G ⟨h, rfl⟩ hk hd
    exact ⟨h.keep hk (fun g hg => hd g (by simp [hg])), rfl⟩
  lt := by
    rintro w F ⟨h, rfl⟩ x hx
    rcases h with h | ⟨g, rfl, _, hg, _⟩
    · obtain ⟨cur, h1⟩ := own_ty h (g := x) (by simpa using hx)
      exact lt_of_heap h1
    · simp [Value.ownBlock] at hx; omega
theorem conv_bufG {w : World} {po : Option Addr} {pc : Nat} {s : ByteArray} (h : OwnG w 5 1 (.slice po s.size pc) s.size (Lib.strCells s)) :
    (convert 30 9 (.slice po s.size pc)).run Try.prog w = .ok (.string s) w := by
  rcases h with h | ⟨g, hv, hl, hg, hc⟩
  · exact conv_buf h
  · injection hv with h1 h2 h3
    subst h1
    have := run_convert_bytes_arg (P := Try.prog) w 30 5 Try.underlying30 Try.underlying5 g 0 s.size pc (s.data.toList.map fun x => (x.toNat : Int)) (by rw [List.length_map, Array.length_toList]; rfl) (fun i hi => by
      have hc := hc i (.int .u8 ((s.data.toList.map fun x => (x.toNat : Int)).getD i 0)) (by
        unfold Lib.strCells
        have hil : i < s.data.toList.length := by rw [Array.length_toList]; exact hi
        rw [List.getElem?_map, List.getD_eq_getElem?_getD, List.getElem?_map, List.getElem?_eq_getElem hil]; rfl)
      rwa [Addr.add_lit] at hc) 9 Try.underlying9
    rw [this, strNums]
set_option maxHeartbeats 2000000 in
/-- put: so many bytes of a number behind a buffer. -/
theorem put_g (w : World) (F : List Nat) (o : Value) (s : ByteArray) (n : Nat) (k : Nat) (h : BufG o s w F) (hs : s.size ≤ 140737488350000) (hn : n ≤ 140737488355328) (hk : k ≤ 8) :
    Calls Try.prog 66 #[o, .int .i64 n, .int .i64 k] w fun e w' => ∃ po pc, e = .returned (.slice po (s.size + k) pc) ∧ To (BufG (.slice po (s.size + k) pc) (s ++ numS n k)) F w w' := by
  obtain ⟨i0, hi, hz0, hz1, hz2⟩ := info_parts infoByte
  have Hi := Lib.hid (And.intro hi (And.intro hz0 (And.intro hz1 hz2)))
  clear hi hz0 hz1 hz2
  obtain ⟨po, pc, rfl⟩ := ownG_form h.1
  have H := Lib.hid h
  clear h
  go_enter Try.func66, Try.ntmps66
  go_wp2_with fail
  go_loopw [0, 9] (fun b i wr => ∃ j : Nat, j ≤ k ∧ i = .int .i64 j ∧ ∃ qo qc, b = .slice qo (s.size + j) qc ∧ To (BufG (.slice qo (s.size + j) qc) (s ++ numS n j)) F w wr) (fun _ i _ => k - (intOf i).toNat)
  case atStart => exact ⟨0, by omega, rfl, po, pc, rfl, by
    have e : s ++ numS n 0 = s := by show s ++ ByteArray.empty = s; simp
    rw [e]; exact To.refl H.out⟩
  case round =>
    obtain ⟨j, hj, rfl, qo, qc, rfl, ht⟩ := hrel
    have Ht := Lib.hid ht
    clear ht
    by_cases hlt : j < k
    · obtain ⟨F', hB, hkk, hsub⟩ := Ht.out
      obtain ⟨hrow, rfl⟩ := hB
      have hsz : (s ++ numS n j).size = s.size + j := by rw [ByteArray.size_append, numS_size]
      rw [hsz] at hrow
      have Hrow := Lib.hid hrow
      have hml : n / 256 ^ j ≤ 140737488355328 := Nat.le_trans (Nat.div_le_self _ _) hn
      have hval : (n : Int) / 2 ^ (8 * j) % 256 = ((n / 256 ^ j : Nat) : Int) % 256 := by
        have e : ((n / 256 ^ j : Nat) : Int) = (n : Int) / 2 ^ (8 * j) := by
          rw [show (256 : Nat) ^ j = 2 ^ (8 * j) by rw [Nat.pow_mul]]; simp
        rw [e]
      have Hval := Lib.hid hval
      have hwl := hkk.size
      clear hrow hval
      go_wp2_with (at_builtin; refine wpList_appendG _ rfl _ _ 30 rfl 5 i0 _ 1 1 Try.underlying30 Hi.out.1 Hi.out.2.1 Hi.out.2.2.1 Hi.out.2.2.2 rfl (by decide) _ _ _ rfl (Hrow.out.keep (Keep.alloc [] _ _) (by simp)) ⟨wr.heap.size, 0, none⟩ 1 1 [.int .u8 ((n : Int) / 2 ^ (8 * j) % 256)] rfl rfl (one_news _ _ _) ?c2 (by decide) ?c3 ?c4 ?_)
      case c2 => intro u hu; simp at hu; subst hu; rfl
      case c3 => unfold maxLen; omega
      case c4 => omega
      intro g cap wa hoa hga hfa
      have hka : Keep (Value.slice qo (s.size + j) qc).ownBlock.toList wr wa := (Keep.alloc _ _ _).trans (Keep.grown hga (fun k hk => by rw [hk]; simp)) (fun x hx => .inl hx)
      have hnew : To (BufG (.slice (some ⟨g, 0, none⟩) (s.size + (j + 1)) cap) (s ++ numS n (j + 1))) F w wa := by
        refine Ht.out.trans fun F' hF' => ?_
        obtain ⟨_, rfl⟩ := hF'
        refine ⟨_, ⟨?_, rfl⟩, hka, fun x hx => ?_⟩
        · have e1 : s ++ numS n (j + 1) = (s ++ numS n j) ++ oneS (((n / 256 ^ j : Nat) : Int) % 256) := by show s ++ (numS n j ++ _) = _; rw [ByteArray.append_assoc]
          rw [e1, ← strCells_app, ByteArray.size_append, hsz, oneS_size, strCells_one _ (by omega) (by omega), ← Hval.out]
          exact .inl hoa
        · simp [Value.ownBlock] at hx
          subst hx
          rcases hfa with h | h
          · left; rw [← h]; simp
          · exact .inr (Nat.le_of_succ_le (by simpa using h))
      have Hnew := Lib.hid hnew
      clear hnew hka hfa hga hoa
      go_wp2_with fail
      go_roundw
      case rel => exact ⟨j + 1, by omega, by go_num, _, _, rfl, Hnew.out⟩
      case measure => simp [intOf]; omega
    · obtain rfl : j = k := by omega
      go_wp2_with fail
      go_ret
      exact ⟨_, _, rfl, Ht.out⟩
set_option maxHeartbeats 2000000 in
theorem padded_g (w : World) (F : List Nat) (o : Value) (s : ByteArray) (h : BufG o s w F) (hs : s.size ≤ 140737488350000) :
    Calls Try.prog 67 #[o] w fun e w' => e = .returned (.string (padS s)) ∧ Keep [] w w' := by
  obtain ⟨po, pc, rfl⟩ := ownG_form h.1
  have hcv : ∀ n, (convert 30 9 (.slice po s.size pc)).run Try.prog (Wk w n) = .ok (.string s) (Wk w n) := fun n => conv_bufG ((bufG_stab _ _).keep h n.k (by simp)).1
  have hpn : padN s.size < 128 := Nat.mod_lt _ (by decide)
  have hr : ((128 - (s.size : Int) % 128) % 128) = ((padN s.size : Nat) : Int) := by unfold padN; omega
  have Hrp : Hid (∀ n, Calls Try.prog 76 #[.string ⟨#[0]⟩, .int .i64 ((padN s.size : Nat) : Int)] (Wk w n) fun e w' => e = .returned (.string (zerosS (padN s.size))) ∧ ∃ m, w' = Wk w m) := fun n => quiet_pure n (by
    have := Try.strings_Repeat ⟨#[0]⟩ (padN s.size) (Wk w n) (by omega) (by show 1 * _ ≤ _; omega)
    rwa [rep_zero] at this)
  have hzz : (zerosS (padN s.size)).size ≤ 128 := by rw [zerosS_size]; omega
  have Hps : Hid (padS s = s ++ zerosS (padN s.size)) := rfl
  generalize padN s.size = p at *
  generalize zerosS p = z at *
  clear h
  go_enter Try.func67, Try.ntmps67
  go_wp2_with fail
  rw [hr]
  clear hr
  refine wp_region_keep (by kernel_rfl) (by kernel_rfl) ?_
  repeat (first
    | go_big_quiet_skip
    | (go_big_quiet_want; go_big_quiet_op; first | go_big_quiet_on | go_big_quiet_call (first
      | (go_at_call 76; exact Hrp.out _))))
  refine wpQuiet_nil ?_
  rintro _ ⟨⟨w1, hk⟩, rfl⟩
  go_wp2_with fail
  go_ret
  exact ⟨by rw [Hps.out]; rfl, hk⟩

theorem magic_cells : Lib.strCells magicS = [.int .u8 86, .int .u8 71, .int .u8 74, .int .u8 49] := rfl
end Go.Proofs.Ytgmggmpkbfljfaa

/- page.encode. -/
set_option linter.unusedVariables false
set_option linter.unusedSimpArgs false
set_option maxRecDepth 100000
namespace Go.Proofs.Ytgmggmpkbfljfaa
open Go.RowKit
/-- A buffer made since w, that may begin as a constant. -/
def BufT (w wr : World) (o : Value) (s : ByteArray) : Prop := To (BufG o s) [] w wr
theorem put_t (w wr : World) (o : Value) (s : ByteArray) (n k q : Nat) (h : BufT w wr o s) (hs : s.size ≤ 140737488350000) (hn : n ≤ 140737488355328) (hk : k ≤ 8) (hq : q = s.size + k) :
    Calls Try.prog 66 #[o, .int .i64 n, .int .i64 k] wr fun e w' => ∃ po pc, e = .returned (.slice po q pc) ∧ BufT w w' (.slice po q pc) (s ++ numS n k) := by
  subst hq
  obtain ⟨F, hB, hk1, hsub⟩ := h
  refine (put_g wr F o s n k hB hs hn hk).mono ?_
  rintro e w' ⟨po, pc, he, F', hB', hk2, hsub2⟩
  refine ⟨po, pc, he, F', hB', hk1.trans hk2 hsub, fun x hx => ?_⟩
  have := hk1.size
  rcases hsub2 x hx with h | h
  · exact hsub x h
  · right; omega
theorem padded_t (w wr : World) (o : Value) (s : ByteArray) (h : BufT w wr o s) (hs : s.size ≤ 140737488350000) :
    Calls Try.prog 67 #[o] wr fun e w' => e = .returned (.string (padS s)) ∧ Keep [] w w' := by
  obtain ⟨F, hB, hk1, hsub⟩ := h
  exact (padded_g wr F o s hB hs).mono fun e w' hk => ⟨hk.1, hk1.trans0 hk.2⟩
theorem magic_t (w : World) (t : Nat × Nat) : BufT w (w.alloc (.cells #[.int .u8 86, .int .u8 71, .int .u8 74, .int .u8 49] 5 t)) (.slice (some ⟨w.heap.size, 0, none⟩) 4 4) magicS :=
  ⟨[w.heap.size], ⟨.inr ⟨w.heap.size, rfl, rfl, by simp, fun j u hj => by
    rw [magic_cells] at hj
    rw [Addr.add_lit, Nat.zero_add, cell_of (World.alloc_heap_new w _)]
    simpa using hj⟩, rfl⟩, Keep.alloc _ _ _, by simp⟩
theorem BufT.keep {w wr : World} {o : Value} {s : ByteArray} (h : BufT w wr o s) : Keep [] w wr := by
  obtain ⟨F, hB, hk1, hsub⟩ := h; exact hk1
theorem BufT.from {w w1 wr : World} {o : Value} {s : ByteArray} (h : BufT w1 wr o s) (hk : Keep [] w w1) : BufT w wr o s := by
  obtain ⟨F, hB, hk1, hsub⟩ := h
  refine ⟨F, hB, hk.trans0 hk1, fun x hx => ?_⟩
  have := hk.size
  rcases hsub x hx with h | h
  · simp at h
  · right; omega
set_option maxHeartbeats 4000000 in
theorem pageEncode_c (w : World) (g f p k : Nat) (hg : g ≤ 140737488355328) (hf : f ≤ 140737488355328) (hp : p ≤ 140737488355328) (hk : k ≤ 140737488355328) :
    Calls Try.prog 68 #[.agg #[.int .i64 g, .int .i64 f, .int .i64 p, .int .i64 k]] w fun e w' => e = .returned (.string (pageS g f p k)) ∧ Keep [] w w' := by
  have kc := Joins.run_convert_bytes_const_at (P := Try.prog) (w.alloc (.cells #[.int .i64 g, .int .i64 f, .int .i64 p, .int .i64 k] 73)) 30 5 #[.int .u8 86, .int .u8 71, .int .u8 74, .int .u8 49] 4 4 (w.heap.size + 1) (by simp) Try.underlying30 Try.underlying5
  have ht := magic_t (w.alloc (.cells #[.int .i64 g, .int .i64 f, .int .i64 p, .int .i64 k] 73)) (4, 5)
  rw [show (w.alloc (.cells #[.int .i64 g, .int .i64 f, .int .i64 p, .int .i64 k] 73)).heap.size = w.heap.size + 1 by simp] at ht
  have Ht := Lib.hid ht
  have Hbox : Hid (∀ w' o s, BufT (w.alloc (.cells #[.int .i64 g, .int .i64 f, .int .i64 p, .int .i64 k] 73)) w' o s → ∀ i, w'.cell? ⟨w.heap.size, i, none⟩ = #[.int .i64 g, .int .i64 f, .int .i64 p, .int .i64 k][i]?) := by
    intro w' o s hb i
    rw [cell_of (hb.keep.heap (World.alloc_heap_new w _) (by simp))]
  have Hm : Hid (magicS.size = 4) := rfl
  have Hps : Hid (pageS g f p k = padS (magicS ++ numS g 8 ++ numS f 8 ++ numS p 8 ++ numS k 4)) := rfl
  clear ht
  go_enter Try.func68, Try.ntmps68
  go_wp2_with fail
  have Hk0 := Lib.hid (Keep.alloc [] w (.cells #[.int .i64 g, .int .i64 f, .int .i64 p, .int .i64 k] 73))
  generalize hwb : w.alloc (.cells #[.int .i64 g, .int .i64 f, .int .i64 p, .int .i64 k] 73) = wb at *
  clear kc hwb
  refine (put_t wb _ _ magicS g 8 12 Ht.out (by rw [Hm.out]; omega) hg (by omega) (by rw [Hm.out])).mono ?_
  rintro e w1 ⟨po, pc, rfl, h1⟩
  have hc1 := Hbox.out w1 _ _ h1
  have H1 := Lib.hid h1
  have H1s : Hid ((magicS ++ numS g 8).size = 12) := by show _ = _; rw [ByteArray.size_append, numS_size, Hm.out]
  clear h1
  go_wp2_with fail
  clear hc1
  refine (put_t wb w1 _ _ f 8 20 H1.out (by rw [H1s.out]; omega) hf (by omega) (by rw [H1s.out])).mono ?_
  rintro e w2 ⟨po2, pc2, rfl, h2⟩
  have hc2 := Hbox.out w2 _ _ h2
  have H2 := Lib.hid h2
  have H2s : Hid ((magicS ++ numS g 8 ++ numS f 8).size = 20) := by show _ = _; rw [ByteArray.size_append, numS_size, H1s.out]
  clear h2
  go_wp2_with fail
  clear hc2
  refine (put_t wb w2 _ _ p 8 28 H2.out (by rw [H2s.out]; omega) hp (by omega) (by rw [H2s.out])).mono ?_
  rintro e w3 ⟨po3, pc3, rfl, h3⟩
  have hc3 := Hbox.out w3 _ _ h3
  have H3 := Lib.hid h3
  have H3s : Hid ((magicS ++ numS g 8 ++ numS f 8 ++ numS p 8).size = 28) := by show _ = _; rw [ByteArray.size_append, numS_size, H2s.out]
  clear h3
  go_wp2_with fail
  clear hc3
  refine (put_t wb w3 _ _ k 4 32 H3.out (by rw [H3s.out]; omega) hk (by omega) (by rw [H3s.out])).mono ?_
  rintro e w4 ⟨po4, pc4, rfl, h4⟩
  have H4 := Lib.hid h4
  have H4s : Hid ((magicS ++ numS g 8 ++ numS f 8 ++ numS p 8 ++ numS k 4).size = 32) := by show _ = _; rw [ByteArray.size_append, numS_size, H3s.out]
  clear h4
  go_wp2_with fail
  refine (padded_t wb w4 _ _ H4.out (by rw [H4s.out]; omega)).mono ?_
  rintro e w5 ⟨rfl, h5⟩
  go_wp2_with fail
  go_ret
  exact ⟨by rw [Hps.out]; rfl, Hk0.out.trans0 h5⟩
theorem pageS_size (g f p k : Nat) : (pageS g f p k).size = 128 := by
  unfold pageS
  rw [padS_size]
  simp only [ByteArray.size_append, numS_size]
  rfl
end Go.Proofs.Ytgmggmpkbfljfaa
