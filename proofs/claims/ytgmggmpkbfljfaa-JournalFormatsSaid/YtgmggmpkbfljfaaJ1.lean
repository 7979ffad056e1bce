/- Append, Pending, Discard. -/
import Derived.Test.YtgmggmpkbfljfaaJ
set_option linter.unusedVariables false
set_option linter.unusedSimpArgs false
set_option maxRecDepth 100000
namespace Go.Proofs.Ytgmggmpkbfljfaa
open Go.RowKit
theorem infoS : (Try.prog.info? 9).map (fun i => (i.zero, i.size, i.bytes)) = some (some (.string ⟨#[]⟩), 1, 16) := by kernel_rfl
theorem one_str (s : ByteArray) : ∀ u ∈ [Value.string s], u.oneCell' = true := by intro u hu; simp at hu; subst hu; rfl
def jApp (J : Jn) (r : ByteArray) : Int × Jn := if J.broken then (18, J) else if 16384 < r.size then (28, J) else if 256 ≤ J.pend.length then (3, J) else (0, { J with pend := J.pend ++ [r] })
theorem own_to {w w' : World} {e : TypeId} {size n m g cap : Nat} {v : Value} {xs ys : List Value} {F : List Nat} (h : OwnH e size v n xs w F) (h2 : w'.ownsRow 0 e size (.slice (some ⟨g, 0, none⟩) m cap) m ys) (hg : w.grownBy w' v.ownBlock) (hf : some g = v.ownBlock ∨ w.heap.size ≤ g) :
    To (OwnH e size (.slice (some ⟨g, 0, none⟩) m cap) m ys) F w w' := by
  obtain ⟨h1, rfl⟩ := h
  refine ⟨[g], ⟨h2, rfl⟩, Keep.grown hg (fun k hk => by rw [hk]; simp), fun x hx => ?_⟩
  simp at hx; subst hx
  rcases hf with h | h
  · left; rw [← h]; simp
  · exact .inr h
theorem JS.setPend {jb vb : Nat} {p : Pg} {br : Bool} {gv pv : Value} {G : GL} {gv' pv' pv'' : Value} {G' : GL} {l l' : List ByteArray} {w w' : World} {F : List Nat} (h : JS jb vb p br gv pv G gv' pv' G' l w F)
    (ht : ∀ F, OwnH 9 1 pv' l.length (scells l) w F → To (OwnH 9 1 pv'' l'.length (scells l')) F w w') : To (JS jb vb p br gv pv G gv' pv'' G' l') F w w' :=
  To.right (boxH_stab _ _ _) h fun _ h => To.right (ownH_stab _ _ _ _ _) h fun _ h => To.left (rowsH_stab _) h ht
theorem JS.setBox {jb vb : Nat} {p q : Pg} {br cr : Bool} {gv pv hv qv : Value} {G : GL} {gv' pv' : Value} {G' : GL} {l : List ByteArray} {w : World} {F : List Nat} (h : JS jb vb p br gv pv G gv' pv' G' l w F) (i : Nat) (v : Value)
    (hc : (jcells vb p gv pv br).setIfInBounds i v = jcells vb q hv qv cr) : To (JS jb vb q cr hv qv G gv' pv' G' l) F w (w.setCell ⟨jb, i, none⟩ v) :=
  To.left ((ownH_stab _ _ _ _ _).sep ((ownH_stab _ _ _ _ _).sep (rowsH_stab _))) h fun _ h => box_set i v hc h
theorem To.box {jb vb : Nat} {p : Pg} {br : Bool} {gv pv : Value} {G : GL} {gv' pv' : Value} {G' : GL} {l : List ByteArray} {w w' : World} {F : List Nat} (h : To (JS jb vb p br gv pv G gv' pv' G' l) F w w') :
    w'.heap[jb]? = some (.cells (jcells vb p gv pv br) 76 (0, 0)) := by
  obtain ⟨F', h1, _⟩ := h; exact h1.box
set_option maxHeartbeats 2000000 in
theorem append_ok (jb vb : Nat) (J : Jn) (r : ByteArray) (hb : J.broken = false) (hr : r.size ≤ 16384) (hl : J.pend.length < 256) :
    Met Try.prog 13 #[.pointer (some ⟨jb, 0, none⟩), .string r] (.int .i64 0) (JH jb vb J) (JH jb vb { J with pend := J.pend ++ [r] }) := by
  rintro w F ⟨gv, pv, G, hG, hJ⟩
  obtain ⟨i0, hi, hz0, hz1, hz2⟩ := info_parts infoS
  have Hi := Lib.hid (And.intro hi (And.intro hz0 (And.intro hz1 hz2)))
  clear hi hz0 hz1 hz2
  obtain ⟨pg, groups, pend, broken⟩ := J
  dsimp only at hb hl hG hJ ⊢
  subst hb
  obtain ⟨po, pc, rfl⟩ := own_form hJ.pnd
  have HS := Lib.hid (state_c w jb vb pg gv (.slice po pend.length pc) false hJ.box)
  have hc := cell_of hJ.box
  have hf := frozen_of hJ.box
  simp only [jcells] at hc
  have HJ := Lib.hid hJ
  have HG := Lib.hid hG
  clear hJ hG
  go_enter Try.func13, Try.ntmps13
  go_wp2_with fail
  refine HS.out.mono ?_
  rintro e w' ⟨rfl, rfl⟩
  have hj0 : jState false = 0 := rfl
  rw [hj0]
  go_wp2_with (at_builtin; refine wpList_append2 _ rfl _ _ 31 rfl 9 i0 _ 1 16 Try.underlying31 Hi.out.1 Hi.out.2.1 Hi.out.2.2.1 Hi.out.2.2.2 rfl (by decide) _ _ _ rfl ((own_keep' HJ.out.pnd (Keep.alloc [] _ _) (by simp))) ⟨w'.heap.size, 0, none⟩ 1 1 [.string r] rfl rfl (one_news _ _ _) (one_str r) ?c2 ?c3 ?c4 ?_)
  case c2 => decide
  case c3 => unfold maxLen; omega
  case c4 => omega
  intro g cap wa hoa hga hfa
  rw [scells_snoc] at hoa
  have hle : (pend ++ [r]).length = pend.length + 1 := by simp
  have ht : To (JS jb vb pg false gv (.slice po pend.length pc) G gv (.slice (some ⟨g, 0, none⟩) (pend.length + 1) cap) G (pend ++ [r])) F w' wa := by
    have h1 := (js_stab _ _ _ _ _ _ _ _ _ _ _).keep HJ.out (Keep.alloc [] w' (.cells #[Value.string r] 9)) (by simp)
    refine To.from (h1.setPend fun F' hF' => ?_) ((Keep.alloc [] w' (.cells #[Value.string r] 9)).mono (by simp))
    rw [hle]
    exact own_to hF' hoa hga (by simpa using hfa)
  have hc2 := cell_of ht.box
  have hf2 := frozen_of ht.box
  simp only [jcells] at hc2
  have Ht := Lib.hid ht
  clear ht hoa hga hfa hc hf
  go_wp2_with fail
  go_ret
  refine ⟨rfl, (Ht.out.trans fun F' h => h.setBox (q := pg) (cr := false) (hv := gv) (qv := .slice (some ⟨g, 0, none⟩) (pend.length + 1) cap) 6 _ rfl).imp fun w F h => ⟨_, _, G, HG.out, h⟩⟩
theorem append_e (jb vb : Nat) (J : Jn) (r : ByteArray) (hs : r.size ≤ 140737488355328) (hl : J.pend.length ≤ 256) (hno : ¬ (J.broken = false ∧ r.size ≤ 16384 ∧ J.pend.length < 256)) (w : World) (F : List Nat) (h : JH jb vb J w F) :
    Calls Try.prog 13 #[.pointer (some ⟨jb, 0, none⟩), .string r] w fun e w' => e = .returned (.int .i64 (jApp J r).1) ∧ w' = w := by
  obtain ⟨gv, pv, G, hG, hJ⟩ := h
  obtain ⟨pg, groups, pend, broken⟩ := J
  unfold jApp
  dsimp only at hl hno hJ ⊢
  obtain ⟨po, pc, rfl⟩ := own_form hJ.pnd
  have HS := Lib.hid (state_c w jb vb pg gv (.slice po pend.length pc) broken hJ.box)
  have hc := cell_of hJ.box
  simp only [jcells] at hc
  clear hJ hG
  cases broken
  · by_cases h1 : 16384 < r.size
    · clear hno
      go_enter Try.func13, Try.ntmps13
      go_wp2_with fail
      refine HS.out.mono ?_
      rintro e w' ⟨rfl, rfl⟩
      have hj0 : jState false = 0 := rfl
      rw [hj0]
      go_wp2_with fail
      go_ret
      exact ⟨by simp [h1], rfl⟩
    · have h2 : pend.length = 256 := by
        have h3 : ¬ pend.length < 256 := fun h3 => hno ⟨rfl, by omega, h3⟩
        omega
      have h4 : r.size ≤ 16384 := by omega
      rw [h2] at hc
      clear hno
      go_enter Try.func13, Try.ntmps13
      go_wp2_with fail
      refine HS.out.mono ?_
      rintro e w' ⟨rfl, rfl⟩
      have hj0 : jState false = 0 := rfl
      rw [hj0]
      go_wp2_with fail
      go_ret
      exact ⟨by simp [h1, h2], rfl⟩
  · go_enter Try.func13, Try.ntmps13
    go_wp2_with fail
    refine HS.out.mono ?_
    rintro e w' ⟨rfl, rfl⟩
    have hj0 : jState true = 18 := rfl
    rw [hj0]
    go_wp2_with fail
    go_ret
    exact ⟨rfl, rfl⟩
theorem append_m (jb vb : Nat) (J : Jn) (r : ByteArray) (hs : r.size ≤ 140737488355328) (hl : J.pend.length ≤ 256) :
    Met Try.prog 13 #[.pointer (some ⟨jb, 0, none⟩), .string r] (.int .i64 (jApp J r).1) (JH jb vb J) (JH jb vb (jApp J r).2) := by
  by_cases h : J.broken = false ∧ r.size ≤ 16384 ∧ J.pend.length < 256
  · have e : jApp J r = (0, { J with pend := J.pend ++ [r] }) := by
      unfold jApp; rw [if_neg (by simp [h.1]), if_neg (by omega), if_neg (by omega)]
    rw [e]
    exact append_ok jb vb J r h.1 h.2.1 h.2.2
  · have e : (jApp J r).2 = J := by
      unfold jApp
      split
      · rfl
      split
      · rfl
      split
      · rfl
      · rename_i h1 h2 h3; exact absurd ⟨by simpa using h1, by omega, by omega⟩ h
    rw [e]
    intro w F hF
    exact (append_e jb vb J r hs hl h w F hF).mono fun e w' hk => ⟨hk.1, by rw [hk.2]; exact To.refl hF⟩
/-! ### Pending, Discard -/
theorem row_cells_of {w : World} {g n cap : Nat} {l : List ByteArray} (h : w.ownsRow 0 9 1 (.slice (some ⟨g, 0, none⟩) n cap) n (scells l)) : ∀ j, j < l.length → w.cell? ⟨g, 0 + j, none⟩ = some (.string (l.getD j ByteArray.empty)) := by
  intro j hj
  have := h.cells (g := g) rfl j (.string (l.getD j ByteArray.empty)) (by rw [scells_get l j hj, List.getD_eq_getElem?_getD, List.getElem?_eq_getElem hj]; rfl)
  rwa [Addr.add_lit] at this
/-- A clone of a row of strings. -/
theorem cloneS_c (w : World) (v : Value) (l : List ByteArray) (h : RowR w v (scells l)) (hl : l.length ≤ 1000000) :
    Calls Try.prog 40 #[v] w fun e w' => ∃ v', e = .returned v' ∧ w'.ownsRow w.heap.size 9 1 v' l.length (scells l) ∧ Keep [] w w' := by
  rcases h with ⟨rfl, hx⟩ | ⟨g, o, c, rfl, hg, hc⟩
  · have hx : l = [] := by simpa [scells] using hx
    subst hx
    refine (Try.slices_Clone_string_nil 0 0 w).mono ?_
    rintro e w' ⟨rfl, rfl⟩
    exact ⟨_, rfl, ⟨rfl, .inl ⟨rfl, rfl⟩⟩, Keep.refl _ _⟩
  · rw [scells_length]
    refine (Try.slices_Clone_string g o l.length c l w (Nat.le_refl _) (by omega) (fun j hj => ?_)).mono ?_
    · refine hc j _ ?_
      rw [scells_get l j hj, List.getD_eq_getElem?_getD, List.getElem?_eq_getElem hj]; rfl
    · rintro e w' ⟨v', rfl, h1, _, h2⟩
      rw [List.take_length] at h1
      exact ⟨v', rfl, h1, Keep.of_below h2⟩
theorem pending_c (w : World) (jb vb : Nat) (p : Pg) (br : Bool) (gv pv : Value) (l : List ByteArray) (h : w.heap[jb]? = some (.cells (jcells vb p gv pv br) 76 (0, 0))) (hp : RowR w pv (scells l)) (hl : l.length ≤ 1000000) :
    Calls Try.prog 14 #[.pointer (some ⟨jb, 0, none⟩)] w fun e w' => ∃ v', e = .returned v' ∧ w'.ownsRow w.heap.size 9 1 v' l.length (scells l) ∧ Keep [] w w' := by
  obtain ⟨po, pc, hpv⟩ := hp.form
  have HC := Lib.hid (cloneS_c w pv l hp hl)
  rw [hpv] at HC h
  have hc := cell_of h
  simp only [jcells] at hc
  clear hp hpv h
  go_enter Try.func14, Try.ntmps14
  go_wp2_with fail
  refine HC.out.mono ?_
  rintro e w' ⟨v', rfl, h1, h2⟩
  have H1 := Lib.hid h1
  have H2 := Lib.hid h2
  clear h1 h2
  go_wp2_with fail
  go_ret
  exact ⟨_, rfl, H1.out, H2.out⟩
theorem pending_n (w : World) : Calls Try.prog 14 #[.pointer none] w fun e w' => e = .returned (.slice none 0 0) ∧ w' = w := by
  go_enter Try.func14, Try.ntmps14
  go_wp2_with fail
  go_ret
  exact ⟨rfl, rfl⟩
theorem own_nil (w : World) (e : TypeId) (size : Nat) : w.ownsRow 0 e size (.slice none 0 0) 0 [] := ⟨by simp, .inl ⟨rfl, rfl⟩⟩
def jDisc (J : Jn) : Int × Jn := if J.broken then (18, J) else (0, { J with pend := [] })
theorem discard_m (jb vb : Nat) (J : Jn) : Met Try.prog 15 #[.pointer (some ⟨jb, 0, none⟩)] (.int .i64 (jDisc J).1) (JH jb vb J) (JH jb vb (jDisc J).2) := by
  rintro w F ⟨gv, pv, G, hG, hJ⟩
  obtain ⟨pg, groups, pend, broken⟩ := J
  unfold jDisc
  dsimp only at hG hJ ⊢
  have HS := Lib.hid (state_c w jb vb pg gv pv broken hJ.box)
  have hc := cell_of hJ.box
  have hf := frozen_of hJ.box
  simp only [jcells] at hc
  have HJ := Lib.hid hJ
  have HG := Lib.hid hG
  clear hJ hG
  cases broken
  · go_enter Try.func15, Try.ntmps15
    go_wp2_with fail
    refine HS.out.mono ?_
    rintro e w' ⟨rfl, rfl⟩
    have hj0 : jState false = 0 := rfl
    rw [hj0]
    go_wp2_with fail
    go_ret
    refine ⟨rfl, ?_⟩
    have h1 := HJ.out.setBox (q := pg) (cr := false) (hv := gv) (qv := .slice none 0 0) 6 (.slice none 0 0) rfl
    refine (h1.trans fun F' h => h.setPend (pv'' := .slice none 0 0) (l' := []) fun F hF => ⟨[], ⟨own_nil _ _ _, rfl⟩, Keep.refl _ _, by simp⟩).imp fun w F h => ⟨gv, _, G, HG.out, h⟩
  · go_enter Try.func15, Try.ntmps15
    go_wp2_with fail
    refine HS.out.mono ?_
    rintro e w' ⟨rfl, rfl⟩
    have hj0 : jState true = 18 := rfl
    rw [hj0]
    go_wp2_with fail
    go_ret
    exact ⟨rfl, To.refl ⟨_, _, G, HG.out, HJ.out⟩⟩
theorem discard_n (w : World) : Calls Try.prog 15 #[.pointer none] w fun e w' => e = .returned (.int .i64 1) ∧ w' = w := by
  go_enter Try.func15, Try.ntmps15
  go_wp2_with fail
  refine (state_n _).mono ?_
  rintro e w' ⟨rfl, rfl⟩
  go_wp2_with fail
  first | (go_ret; exact ⟨rfl, rfl⟩) | (go_ret2; exact ⟨rfl, rfl⟩)
theorem commit_n (w : World) : Calls Try.prog 22 #[.pointer none] w fun e w' => e = .returned (.tuple #[.int .i64 0, .int .i64 1]) ∧ w' = w := by
  go_enter Try.func22, Try.ntmps22
  go_wp2_with fail
  refine (state_n _).mono ?_
  rintro e w' ⟨rfl, rfl⟩
  go_wp2_with fail
  first | (go_ret; exact ⟨rfl, rfl⟩) | (go_ret2; exact ⟨rfl, rfl⟩)
theorem append_n (r : ByteArray) (w : World) : Calls Try.prog 13 #[.pointer none, .string r] w fun e w' => e = .returned (.int .i64 1) ∧ w' = w := by
  go_enter Try.func13, Try.ntmps13
  go_wp2_with fail
  refine (state_n _).mono ?_
  rintro e w' ⟨rfl, rfl⟩
  go_wp2_with fail
  go_ret; exact ⟨rfl, rfl⟩
theorem drop_n (n : Int) (w : World) : Calls Try.prog 31 #[.pointer none, .int .i64 n] w fun e w' => e = .returned (.int .i64 1) ∧ w' = w := by
  go_enter Try.func31, Try.ntmps31
  go_wp2_with fail
  refine (state_n _).mono ?_
  rintro e w' ⟨rfl, rfl⟩
  go_wp2_with fail
  go_ret; exact ⟨rfl, rfl⟩
theorem group_n (n : Int) (w : World) : Calls Try.prog 30 #[.pointer none, .int .i64 n] w fun e w' => e = .returned (.tuple #[.slice none 0 0, .int .i64 1]) ∧ w' = w := by
  go_enter Try.func30, Try.ntmps30
  go_wp2_with fail
  refine (state_n _).mono ?_
  rintro e w' ⟨rfl, rfl⟩
  go_wp2_with fail
  go_ret2; exact ⟨rfl, rfl⟩
end Go.Proofs.Ytgmggmpkbfljfaa
