/- The journal in memory, and its small methods. -/
import Derived.Test.YtgmggmpkbfljfaaJ0
set_option linter.unusedVariables false
set_option linter.unusedSimpArgs false
set_option maxRecDepth 100000
namespace Go.Proofs.Ytgmggmpkbfljfaa
open Go.RowKit
structure Jn where
  pg : Pg
  groups : List (List ByteArray)
  pend : List ByteArray
  broken : Bool
def jcells (vb : Nat) (p : Pg) (gv pv : Value) (br : Bool) : Array Value :=
  #[.pointer (some ⟨vb, 0, none⟩), .int .i64 p.g, .int .i64 p.f, .int .i64 p.p, .int .i64 p.k, gv, pv, .bool br]
/-- Only read: a row of strings for each group. -/
abbrev GL := List (Value × List ByteArray)
def gcells (G : GL) : List Value := G.flatMap fun x => [x.1, .int .i64 (secsN x.2)]
def OwnH (e : TypeId) (size : Nat) (v : Value) (n : Nat) (xs : List Value) : HP := fun w F => w.ownsRow 0 e size v n xs ∧ F = v.ownBlock.toList
theorem ownH_stab (e : TypeId) (size : Nat) (v : Value) (n : Nat) (xs : List Value) : Stab (OwnH e size v n xs) where
  keep := by
    rintro w w' F G ⟨h, rfl⟩ hk hd
    exact ⟨own_keep' h hk (fun g hg => hd g (by simp [hg])), rfl⟩
  lt := by
    rintro w F ⟨h, rfl⟩ x hx
    obtain ⟨cur, h1⟩ := own_ty h (g := x) (by simpa using hx)
    exact lt_of_heap h1
def RowsH (G : GL) : HP := fun w F => (∀ x ∈ G, RowR w x.1 (scells x.2)) ∧ F = G.flatMap fun x => rowF x.1
theorem rowsH_stab (G : GL) : Stab (RowsH G) where
  keep := by
    rintro w w' F E ⟨h, rfl⟩ hk hd
    exact ⟨fun x hx => (h x hx).keep hk (fun y hy => hd y (List.mem_flatMap.2 ⟨x, hx, hy⟩)), rfl⟩
  lt := by
    rintro w F ⟨h, rfl⟩ y hy
    obtain ⟨x, hx, hy⟩ := List.mem_flatMap.1 hy
    exact (h x hx).lt y hy
/-- The journal with its rows told apart. -/
def JS (jb vb : Nat) (p : Pg) (br : Bool) (gv pv : Value) (G : GL) (gv' pv' : Value) (G' : GL) (l : List ByteArray) : HP :=
  Sep (BoxH jb (jcells vb p gv pv br) 76) (Sep (OwnH 83 2 gv' G'.length (gcells G')) (Sep (OwnH 9 1 pv' l.length (scells l)) (RowsH G)))
def JH (jb vb : Nat) (J : Jn) : HP := fun w F => ∃ gv pv G, G.map (·.2) = J.groups ∧ JS jb vb J.pg J.broken gv pv G gv pv G J.pend w F
theorem js_stab (jb vb : Nat) (p : Pg) (br : Bool) (gv pv : Value) (G : GL) (gv' pv' : Value) (G' : GL) (l : List ByteArray) : Stab (JS jb vb p br gv pv G gv' pv' G' l) :=
  (boxH_stab _ _ _).sep ((ownH_stab _ _ _ _ _).sep ((ownH_stab _ _ _ _ _).sep (rowsH_stab _)))
theorem jh_stab (jb vb : Nat) (J : Jn) : Stab (JH jb vb J) where
  keep := by
    rintro w w' F G ⟨gv, pv, G', h1, h⟩ hk hd
    exact ⟨gv, pv, G', h1, (js_stab _ _ _ _ _ _ _ _ _ _ _).keep h hk hd⟩
  lt := by
    rintro w F ⟨gv, pv, G', h1, h⟩
    exact (js_stab _ _ _ _ _ _ _ _ _ _ _).lt h
theorem To.imp {A B : HP} {F : List Nat} {w w' : World} (h : To A F w w') (hi : ∀ w F, A w F → B w F) : To B F w w' := by
  obtain ⟨F', h1, h2, h3⟩ := h
  exact ⟨F', hi _ _ h1, h2, h3⟩
/-- What the block of a journal says. -/
theorem JS.box {jb vb : Nat} {p : Pg} {br : Bool} {gv pv : Value} {G : GL} {gv' pv' : Value} {G' : GL} {l : List ByteArray} {w : World} {F : List Nat} (h : JS jb vb p br gv pv G gv' pv' G' l w F) :
    w.heap[jb]? = some (.cells (jcells vb p gv pv br) 76 (0, 0)) := by
  obtain ⟨F1, F2, h1, _⟩ := h; exact h1.2
theorem JS.grp {jb vb : Nat} {p : Pg} {br : Bool} {gv pv : Value} {G : GL} {gv' pv' : Value} {G' : GL} {l : List ByteArray} {w : World} {F : List Nat} (h : JS jb vb p br gv pv G gv' pv' G' l w F) :
    w.ownsRow 0 83 2 gv' G'.length (gcells G') := by
  obtain ⟨F1, F2, h1, ⟨F3, F4, h2, _⟩, _⟩ := h; exact h2.1
theorem JS.pnd {jb vb : Nat} {p : Pg} {br : Bool} {gv pv : Value} {G : GL} {gv' pv' : Value} {G' : GL} {l : List ByteArray} {w : World} {F : List Nat} (h : JS jb vb p br gv pv G gv' pv' G' l w F) :
    w.ownsRow 0 9 1 pv' l.length (scells l) := by
  obtain ⟨F1, F2, h1, ⟨F3, F4, h2, ⟨F5, F6, h3, _⟩, _⟩, _⟩ := h; exact h3.1
theorem JS.rows {jb vb : Nat} {p : Pg} {br : Bool} {gv pv : Value} {G : GL} {gv' pv' : Value} {G' : GL} {l : List ByteArray} {w : World} {F : List Nat} (h : JS jb vb p br gv pv G gv' pv' G' l w F) :
    ∀ x ∈ G, RowR w x.1 (scells x.2) := by
  obtain ⟨F1, F2, h1, ⟨F3, F4, h2, ⟨F5, F6, h3, h4, _⟩, _⟩, _⟩ := h; exact h4.1
theorem box_set {w : World} {jb : Nat} {cs cs' : Array Value} {t : TypeId} (i : Nat) (v : Value) (hc : cs.setIfInBounds i v = cs') {F : List Nat} (h : BoxH jb cs t w F) : To (BoxH jb cs' t) F w (w.setCell ⟨jb, i, none⟩ v) := by
  obtain ⟨rfl, h⟩ := h
  exact ⟨[jb], ⟨rfl, by rw [set_same h, hc]⟩, Keep.setCell _ _ _ _ _ (by simp), fun x hx => .inl hx⟩
/-! ### state, First, Last, Free, ring, sector -/
def jState (br : Bool) : Int := if br then 18 else 0
theorem state_c (w : World) (jb vb : Nat) (p : Pg) (gv pv : Value) (br : Bool) (h : w.heap[jb]? = some (.cells (jcells vb p gv pv br) 76 (0, 0))) :
    Calls Try.prog 39 #[.pointer (some ⟨jb, 0, none⟩)] w fun e w' => e = .returned (.int .i64 (jState br)) ∧ w' = w := by
  have hc := cell_of h
  simp only [jcells] at hc
  cases br
  all_goals
    go_enter Try.func39, Try.ntmps39
    go_wp2_with fail
    go_ret
    exact ⟨rfl, rfl⟩
theorem state_n (w : World) : Calls Try.prog 39 #[.pointer none] w fun e w' => e = .returned (.int .i64 1) ∧ w' = w := by
  go_enter Try.func39, Try.ntmps39
  go_wp2_with fail
  go_ret
  exact ⟨rfl, rfl⟩
theorem first_c (w : World) (jb vb : Nat) (p : Pg) (gv pv : Value) (br : Bool) (h : w.heap[jb]? = some (.cells (jcells vb p gv pv br) 76 (0, 0))) :
    Calls Try.prog 32 #[.pointer (some ⟨jb, 0, none⟩)] w fun e w' => e = .returned (.int .i64 p.f) ∧ w' = w := by
  have hc := cell_of h
  simp only [jcells] at hc
  go_enter Try.func32, Try.ntmps32
  go_wp2_with fail
  go_ret
  exact ⟨rfl, rfl⟩
theorem first_n (w : World) : Calls Try.prog 32 #[.pointer none] w fun e w' => e = .returned (.int .i64 0) ∧ w' = w := by
  go_enter Try.func32, Try.ntmps32
  go_wp2_with fail
  go_ret
  exact ⟨rfl, rfl⟩
theorem last_c (w : World) (jb vb : Nat) (p : Pg) (ao : Option Addr) (gn gc : Nat) (pv : Value) (br : Bool) (h : w.heap[jb]? = some (.cells (jcells vb p (.slice ao gn gc) pv br) 76 (0, 0))) (hf : p.f ≤ 140737488355328) (hg : gn ≤ 140737488355328) :
    Calls Try.prog 34 #[.pointer (some ⟨jb, 0, none⟩)] w fun e w' => e = .returned (.int .i64 ((p.f : Int) + gn - 1)) ∧ Keep [] w w' := by
  have hc := cell_of h
  simp only [jcells] at hc
  go_enter Try.func34, Try.ntmps34
  go_wp2_with fail
  go_big_quiet (fail)
  go_wp2_with fail
  go_ret
  exact ⟨rfl, Keep.drewN _ _ _⟩
theorem last_n (w : World) : Calls Try.prog 34 #[.pointer none] w fun e w' => e = .returned (.int .i64 0) ∧ w' = w := by
  go_enter Try.func34, Try.ntmps34
  go_wp2_with fail
  go_ret
  exact ⟨rfl, rfl⟩
theorem ring_c (w : World) (jb vb mb : Nat) (p : Pg) (gv pv pw : Value) (br : Bool) (v : Vol) (R : Nat) (h : w.heap[jb]? = some (.cells (jcells vb p gv pv br) 76 (0, 0))) (hv : VolAt w vb mb pw v) (hR : v.sectors = R + 2) (hR2 : R ≤ 65534) :
    Calls Try.prog 43 #[.pointer (some ⟨jb, 0, none⟩)] w fun e w' => e = .returned (.int .i64 R) ∧ w' = w := by
  have hc := cell_of h
  simp only [jcells] at hc
  have HL := Lib.hid (len_c w vb mb pw v hv)
  rw [hR] at HL
  clear hv
  go_enter Try.func43, Try.ntmps43
  go_wp2_with fail
  refine HL.out.mono ?_
  rintro e w' ⟨rfl, rfl⟩
  have hrr : ((R : Int) + 2 - 2) = R := by omega
  go_wp2_with fail
  go_ret
  exact ⟨rfl, rfl⟩
theorem sector_c (w : World) (jb vb mb : Nat) (p : Pg) (gv pv pw : Value) (br : Bool) (v : Vol) (R x : Nat) (h : w.heap[jb]? = some (.cells (jcells vb p gv pv br) 76 (0, 0))) (hv : VolAt w vb mb pw v) (hR : v.sectors = R + 2) (hR2 : R ≤ 65534) (hR0 : 0 < R) (hx : x ≤ 140737488355328) :
    Calls Try.prog 54 #[.pointer (some ⟨jb, 0, none⟩), .int .i64 x] w fun e w' => e = .returned (.int .i64 ((2 + x % R : Nat) : Int)) ∧ w' = w := by
  have HL := Lib.hid (ring_c w jb vb mb p gv pv pw br v R h hv hR hR2)
  have hlt := Nat.mod_lt x hR0
  have hcast : ((2 + x % R : Nat) : Int) = 2 + (x : Int) % R := by omega
  have hb : (x : Int) % R ≤ 65534 := by omega
  have hb0 : 0 ≤ (x : Int) % R := by omega
  have hne : ((R : Int) == 0) = false := by rw [beq_eq_false_iff_ne]; omega
  rw [hcast]
  clear h hv hlt hcast
  go_enter Try.func54, Try.ntmps54
  go_wp2_with fail
  refine HL.out.mono ?_
  rintro e w' ⟨rfl, rfl⟩
  go_wp2_with fail
  go_ret
  exact ⟨rfl, rfl⟩
theorem free_c (w : World) (jb vb mb : Nat) (p : Pg) (gv pv pw : Value) (br : Bool) (v : Vol) (R : Nat) (h : w.heap[jb]? = some (.cells (jcells vb p gv pv br) 76 (0, 0))) (hv : VolAt w vb mb pw v) (hR : v.sectors = R + 2) (hR2 : R ≤ 65534) (hk : p.k ≤ 140737488355328) :
    Calls Try.prog 21 #[.pointer (some ⟨jb, 0, none⟩)] w fun e w' => e = .returned (.int .i64 ((R : Int) - p.k)) ∧ Keep [] w w' := by
  have HL : Hid (∀ n : KW w, Calls Try.prog 43 #[.pointer (some ⟨jb, 0, none⟩)] (Wk w n) fun e w' => e = .returned (.int .i64 R) ∧ ∃ m, w' = Wk w m) := fun n =>
    (ring_c (Wk w n) jb vb mb p gv pv pw br v R (n.k.heap h (by simp)) (hv.keep n.k (by simp) (by simp) (by simp)) hR hR2).mono fun e w' h => ⟨h.1, n, h.2⟩
  have hc : ∀ n : KW w, ∀ i, (Wk w n).cell? ⟨jb, i, none⟩ = (jcells vb p gv pv br)[i]? := fun n => cell_of (n.k.heap h (by simp))
  simp only [jcells] at hc
  have hc4 := fun n => hc n 4
  simp only [List.getElem?_toArray, List.getElem?_cons_zero, List.getElem?_cons_succ] at hc4
  clear h hv hc
  go_enter Try.func21, Try.ntmps21
  go_wp2_with fail
  refine wp_region_keep (by kernel_rfl) (by kernel_rfl) ?_
  repeat (first
    | go_big_quiet_skip
    | (go_big_quiet_want; go_big_quiet_op; first | go_big_quiet_on | go_big_quiet_call (first
      | (go_at_call 43; exact HL.out _))))
  refine wpQuiet_nil ?_
  rintro w1 ⟨⟨_, hk1⟩, rfl⟩
  have Hk1 := Lib.hid hk1
  clear hk1
  go_wp2_with fail
  go_ret
  exact ⟨rfl, Hk1.out⟩
theorem free_n (w : World) : Calls Try.prog 21 #[.pointer none] w fun e w' => e = .returned (.int .i64 0) ∧ w' = w := by
  go_enter Try.func21, Try.ntmps21
  go_wp2_with fail
  go_ret
  exact ⟨rfl, rfl⟩
end Go.Proofs.Ytgmggmpkbfljfaa
