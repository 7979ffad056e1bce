import Derived.Test.YtgmggmpkbfljfaaTa
import Derived.Test.YtgmggmpkbfljfaaQa
import Derived.Test.YtgmggmpkbfljfaaM
/- The small functions of the journal over the device: check, write. -/
set_option linter.unusedVariables false
set_option linter.unusedSimpArgs false
set_option maxRecDepth 100000
namespace Go.Proofs.Ytgmggmpkbfljfaa
open Go.RowKit
theorem To.from {A : HP} {F : List Nat} {w w1 w2 : World} (h : To A F w1 w2) (hk : Keep F w w1) : To A F w w2 := by
  obtain ⟨F', h1, h2, h3⟩ := h
  refine ⟨F', h1, hk.trans h2 (fun x hx => .inl hx), fun x hx => ?_⟩
  have := hk.size
  rcases h3 x hx with h | h
  · exact .inl h
  · right; omega
theorem To.before {A : HP} {F F' : List Nat} {w w1 w2 : World} (h : To A F' w1 w2) (hk : Keep F w w1) (hs : ∀ x ∈ F', x ∈ F ∨ w.heap.size ≤ x) : To A F w w2 := by
  obtain ⟨F'', h1, h2, h3⟩ := h
  refine ⟨F'', h1, hk.trans h2 hs, fun x hx => ?_⟩
  have := hk.size
  rcases h3 x hx with h | h
  · exact hs x h
  · right; omega
def jCheck (v : Vol) : Int := if v.down then 20 else if v.sectors ≤ 2 then 2 else 0
theorem jcheck_c (w : World) (b mb : Nat) (pv : Value) (v : Vol) (h : VolAt w b mb pv v) :
    Calls Try.prog 51 #[.pointer (some ⟨b, 0, none⟩)] w fun e w' => e = .returned (.int .i64 (jCheck v)) ∧ w' = w := by
  have HD := Lib.hid (down_c w b mb pv v h)
  have HL := Lib.hid (len_c w b mb pv v h)
  clear h
  unfold jCheck
  obtain ⟨sectors, dur, pend, limited, down, left, writes, barriers⟩ := v
  dsimp only at HD HL ⊢
  cases down
  · by_cases hs : sectors ≤ 2
    · go_enter Try.func51, Try.ntmps51
      go_wp2_with fail
      refine HD.out.mono ?_
      rintro e w' ⟨rfl, rfl⟩
      go_wp2_with fail
      refine HL.out.mono ?_
      rintro e w' ⟨rfl, rfl⟩
      go_wp2_with fail
      go_ret
      exact ⟨by simp [hs], rfl⟩
    · have hs' : 2 < sectors := by omega
      go_enter Try.func51, Try.ntmps51
      go_wp2_with fail
      refine HD.out.mono ?_
      rintro e w' ⟨rfl, rfl⟩
      go_wp2_with fail
      refine HL.out.mono ?_
      rintro e w' ⟨rfl, rfl⟩
      go_wp2_with fail
      go_ret
      exact ⟨by simp [hs], rfl⟩
  · go_enter Try.func51, Try.ntmps51
    go_wp2_with fail
    refine HD.out.mono ?_
    rintro e w' ⟨rfl, rfl⟩
    go_wp2_with fail
    go_ret
    exact ⟨rfl, rfl⟩
theorem jcheck_n (w : World) : Calls Try.prog 51 #[.pointer none] w fun e w' => e = .returned (.int .i64 1) ∧ w' = w := by
  go_enter Try.func51, Try.ntmps51
  go_wp2_with fail
  go_ret
  exact ⟨rfl, rfl⟩
def pgS (p : Pg) : ByteArray := pageS p.g p.f p.p p.k
def jW (v : Vol) (p : Pg) : Int × Vol := if (vWrite v ((p.g : Int) % 2) (pgS p)).1 = 0 then vBarrier (vWrite v ((p.g : Int) % 2) (pgS p)).2 else vWrite v ((p.g : Int) % 2) (pgS p)
theorem vWrite_len (v : Vol) (s : Int) (d : ByteArray) : (vWrite v s d).2.pend.length ≤ v.pend.length + 1 := by
  have hop : ∀ v : Vol, (vOp v).2.pend = v.pend := fun v => by unfold vOp; split <;> (try split) <;> rfl
  unfold vWrite
  split
  · simp
  split
  · simp
  split
  · simp
  split
  · simp
  · dsimp only
    split
    · rw [hop]; simp
    · dsimp only; rw [hop]; simp
set_option maxHeartbeats 2000000 in
theorem jwrite_m (b mb : Nat) (v : Vol) (p : Pg) (hp : pgFit p) (hlen : v.pend.length < 4096) :
    Met Try.prog 47 #[.pointer (some ⟨b, 0, none⟩), .agg (pgA p)] (.int .i64 (jW v p).1) (VolH b mb v) (VolH b mb (jW v p).2) := by
  intro w F hF
  obtain ⟨g, f, q, k⟩ := p
  obtain ⟨hg, hf, hq, hk⟩ := hp
  dsimp only at hg hf hq hk
  have HE : Hid (∀ w', Calls Try.prog 68 #[.agg #[.int .i64 g, .int .i64 f, .int .i64 q, .int .i64 k]] w' fun e w'' => e = .returned (.string (pgS ⟨g, f, q, k⟩)) ∧ Keep [] w' w'') := fun w' => pageEncode_c w' g f q k hg hf hq hk
  have HF := Lib.hid hF
  have hwl := vWrite_len v ((g : Int) % 2) (pgS ⟨g, f, q, k⟩)
  have HW := Lib.hid (write_m b mb v ((g : Int) % 2) (pgS ⟨g, f, q, k⟩))
  have HB : Hid (Met Try.prog 65 #[.pointer (some ⟨b, 0, none⟩)] _ (VolH b mb (vWrite v ((g : Int) % 2) (pgS ⟨g, f, q, k⟩)).2) _) := barrier_m b mb (vWrite v ((g : Int) % 2) (pgS ⟨g, f, q, k⟩)).2 (by omega)
  have hjw : jW v ⟨g, f, q, k⟩ = if (vWrite v ((g : Int) % 2) (pgS ⟨g, f, q, k⟩)).1 = 0 then vBarrier (vWrite v ((g : Int) % 2) (pgS ⟨g, f, q, k⟩)).2 else vWrite v ((g : Int) % 2) (pgS ⟨g, f, q, k⟩) := rfl
  have Hkb : Hid (∀ n : KW (w.alloc (.cells #[.int .i64 g, .int .i64 f, .int .i64 q, .int .i64 k] 73)), ∀ i, (Wk _ n).cell? ⟨w.heap.size, i, none⟩ = #[.int .i64 g, .int .i64 f, .int .i64 q, .int .i64 k][i]?) := fun n i => by
    exact cell_of (n.k.heap (World.alloc_heap_new w _) (by simp)) i
  clear hF hwl
  unfold pgA
  dsimp only
  go_enter Try.func47, Try.ntmps47
  go_wp2_with fail
  have Hk0 := Lib.hid (Keep.alloc [] w (.cells #[.int .i64 g, .int .i64 f, .int .i64 q, .int .i64 k] 73))
  generalize w.alloc (.cells #[.int .i64 g, .int .i64 f, .int .i64 q, .int .i64 k] 73) = wb at *
  have hx0 := fun n => Hkb.out n 0
  have hx1 := fun n => Hkb.out n 1
  have hx2 := fun n => Hkb.out n 2
  have hx3 := fun n => Hkb.out n 3
  simp only [List.getElem?_toArray, List.getElem?_cons_zero, List.getElem?_cons_succ] at hx0 hx1 hx2 hx3
  refine wp_region_keep_tail 6 (by kernel_rfl) (by kernel_rfl) ?_
  simp only [List.take_succ_cons, List.take_zero, List.drop_succ_cons, List.drop_zero]
  repeat (first
    | go_big_quiet_skip
    | (go_big_quiet_want; go_big_quiet_op; first | go_big_quiet_on | go_big_quiet_call (first
      | (go_at_call 68; exact (HE.out _).mono fun e w' h => ⟨h.1, ⟨w', KW.k _ |>.trans0 h.2⟩, rfl⟩))))
  refine wpQuiet_nil ?_
  rintro w1 ⟨⟨_, hk1⟩, rfl⟩
  have hk01 := Hk0.out.trans0 hk1
  have HF1 := Lib.hid ((volH_stab b mb v).keep HF.out hk01 (by simp))
  have Hk1 := Lib.hid hk01
  clear hk1 hk01 hx0 hx1 hx2 hx3
  change wpList _ _ _ _ _ w1
  have hkf : Keep F w w1 := Hk1.out.mono (by simp)
  have Hkf := Lib.hid hkf
  clear hkf
  go_wp2_with fail
  refine (HW.out w1 F HF1.out).mono ?_
  generalize vWrite v ((g : Int) % 2) (pgS ⟨g, f, q, k⟩) = r at *
  obtain ⟨e1, v1⟩ := r
  dsimp only at HB hjw ⊢
  rintro e w2 ⟨rfl, ht2⟩
  have Hjw := Lib.hid hjw
  clear hjw
  by_cases he : e1 = 0
  · subst he
    have hb1 : ((0 : Int) != 0) = false := rfl
    obtain ⟨F2, hF2, hk2, hs2⟩ := ht2
    have HF2 := Lib.hid hF2
    have Hk2 := Lib.hid hk2
    have Hs2 := Lib.hid hs2
    clear hF2 hk2 hs2
    go_wp2_with fail
    refine (HB.out w2 F2 HF2.out).mono ?_
    rintro e w3 ⟨rfl, ht3⟩
    have Ht3 := Lib.hid ht3
    clear ht3
    go_wp2_with fail
    go_ret
    have hj : jW v ⟨g, f, q, k⟩ = vBarrier v1 := by simpa using Hjw.out
    rw [hj]
    exact ⟨rfl, To.from (Ht3.out.before Hk2.out Hs2.out) Hkf.out⟩
  · have hb1 : (e1 != 0) = true := by rw [bne_iff_ne]; exact he
    have Ht2 := Lib.hid ht2
    have hj : jW v ⟨g, f, q, k⟩ = (e1, v1) := by rw [Hjw.out, if_neg he]
    have Hj := Lib.hid hj
    clear ht2 hj he
    go_wp2_with fail
    go_ret
    rw [Hj.out]
    exact ⟨rfl, Ht2.out.from Hkf.out⟩
end Go.Proofs.Ytgmggmpkbfljfaa

/- The journal in memory, and its small methods. -/
set_option linter.unusedVariables false
set_option linter.unusedSimpArgs false
set_option maxRecDepth 100000
namespace Go.Proofs.Ytgmggmpkbfljfaa
open Go.RowKit
structure Jn where
  pg : Pg
  groups : List (List ByteArray)
  pend : List ByteArray
  broken : Bool
def jcells (vb : Nat) (p : Pg) (gv pv : Value) (br : Bool) : Array Value :=
  #[.pointer (some ⟨vb, 0, none⟩), .int .i64 p.g, .int .i64 p.f, .int .i64 p.p, .int .i64 p.k, gv, pv, .bool br]
/-- Only read: a row of strings for each group. -/
abbrev GL := List (Value × List ByteArray)
def gcells (G : GL) : List Value := G.flatMap fun x => [x.1, .int .i64 (secsN x.2)]
def OwnH (e : TypeId) (size : Nat) (v : Value) (n : Nat) (xs : List Value) : HP := fun w F => w.ownsRow 0 e size v n xs ∧ F = v.ownBlock.toList
theorem ownH_stab (e : TypeId) (size : Nat) (v : Value) (n : Nat) (xs : List Value) : Stab (OwnH e size v n xs) where
  keep := by
    rintro w w' F G ⟨h, rfl⟩ hk hd
    exact ⟨own_keep' h hk (fun g hg => hd g (by simp [hg])), rfl⟩
  lt := by
    rintro w F ⟨h, rfl⟩ x hx
    obtain ⟨cur, h1⟩ := own_ty h (g := x) (by simpa using hx)
    exact lt_of_heap h1
def RowsH (G : GL) : HP := fun w F => (∀ x ∈ G, RowR w x.1 (scells x.2)) ∧ F = G.flatMap fun x => rowF x.1
theorem rowsH_stab (G : GL) : Stab (RowsH G) where
  keep := by
    rintro w w' F E ⟨h, rfl⟩ hk hd
    exact ⟨fun x hx => (h x hx).keep hk (fun y hy => hd y (List.mem_flatMap.2 ⟨x, hx, hy⟩)), rfl⟩
  lt := by
    rintro w F ⟨h, rfl⟩ y hy
    obtain ⟨x, hx, hy⟩ := List.mem_flatMap.1 hy
    exact (h x hx).lt y hy
/-- The journal with its rows told apart. -/
def JS (jb vb : Nat) (p : Pg) (br : Bool) (gv pv : Value) (G : GL) (gv' pv' : Value) (G' : GL) (l : List ByteArray) : HP :=
  Sep (BoxH jb (jcells vb p gv pv br) 76) (Sep (OwnH 83 2 gv' G'.length (gcells G')) (Sep (OwnH 9 1 pv' l.length (scells l)) (RowsH G)))
def JH (jb vb : Nat) (J : Jn) : HP := fun w F => ∃ gv pv G, G.map (·.2) = J.groups ∧ JS jb vb J.pg J.broken gv pv G gv pv G J.pend w F
theorem js_stab (jb vb : Nat) (p : Pg) (br : Bool) (gv pv : Value) (G : GL) (gv' pv' : Value) (G' : GL) (l : List ByteArray) : Stab (JS jb vb p br gv pv G gv' pv' G' l) :=
  (boxH_stab _ _ _).sep ((ownH_stab _ _ _ _ _).sep ((ownH_stab _ _ _ _ _).sep (rowsH_stab _)))
theorem jh_stab (jb vb : Nat) (J : Jn) : Stab (JH jb vb J) where
  keep := by
    rintro w w' F G ⟨gv, pv, G', h1, h⟩ hk hd
    exact ⟨gv, pv, G', h1, (js_stab _ _ _ _ _ _ _ _ _ _ _).keep h hk hd⟩
  lt := by
    rintro w F ⟨gv, pv, G', h1, h⟩
    exact (js_stab _ _ _ _ _ _ _ _ _ _ _).lt h
theorem To.imp {A B : HP} {F : List Nat} {w w' : World} (h : To A F w w') (hi : ∀ w F, A w F → B w F) : To B F w w' := by
  obtain ⟨F', h1, h2, h3⟩ := h
  exact ⟨F', hi _ _ h1, h2, h3⟩
/-- What the block of a journal says. -/
theorem JS.box {jb vb : Nat} {p : Pg} {br : Bool} {gv pv : Value} {G : GL} {gv' pv' : Value} {G' : GL} {l : List ByteArray} {w : World} {F : List Nat} (h : JS jb vb p br gv pv G gv' pv' G' l w F) :
    w.heap[jb]? = some (.cells (jcells vb p gv pv br) 76 (0, 0)) := by
  obtain ⟨F1, F2, h1, _⟩ := h; exact h1.2
theorem JS.grp {jb vb : Nat} {p : Pg} {br : Bool} {gv pv : Value} {G : GL} {gv' pv' : Value} {G' : GL} {l : List ByteArray} {w : World} {F : List Nat} (h : JS jb vb p br gv pv G gv' pv' G' l w F) :
    w.ownsRow 0 83 2 gv' G'.length (gcells G') := by
  obtain ⟨F1, F2, h1, ⟨F3, F4, h2, _⟩, _⟩ := h; exact h2.1
theorem JS.pnd {jb vb : Nat} {p : Pg} {br : Bool} {gv pv : Value} {G : GL} {gv' pv' : Value} {G' : GL} {l : List ByteArray} {w : World} {F : List Nat} (h : JS jb vb p br gv pv G gv' pv' G' l w F) :
    w.ownsRow 0 9 1 pv' l.length (scells l) := by
  obtain ⟨F1, F2, h1, ⟨F3, F4, h2, ⟨F5, F6, h3, _⟩, _⟩, _⟩ := h; exact h3.1
theorem JS.rows {jb vb : Nat} {p : Pg} {br : Bool} {gv pv : Value} {G : GL} {gv' pv' : Value} {G' : GL} {l : List ByteArray} {w : World} {F : List Nat} (h : JS jb vb p br gv pv G gv' pv' G' l w F) :
    ∀ x ∈ G, RowR w x.1 (scells x.2) := by
  obtain ⟨F1, F2, h1, ⟨F3, F4, h2, ⟨F5, F6, h3, h4, _⟩, _⟩, _⟩ := h; exact h4.1
theorem box_set {w : World} {jb : Nat} {cs cs' : Array Value} {t : TypeId} (i : Nat) (v : Value) (hc : cs.setIfInBounds i v = cs') {F : List Nat} (h : BoxH jb cs t w F) : To (BoxH jb cs' t) F w (w.setCell ⟨jb, i, none⟩ v) := by
  obtain ⟨rfl, h⟩ := h
  exact ⟨[jb], ⟨rfl, by rw [set_same h, hc]⟩, Keep.setCell _ _ _ _ _ (by simp), fun x hx => .inl hx⟩
/-! ### state, First, Last, Free, ring, sector -/
def jState (br : Bool) : Int := if br then 18 else 0
theorem state_c (w : World) (jb vb : Nat) (p : Pg) (gv pv : Value) (br : Bool) (h : w.heap[jb]? = some (.cells (jcells vb p gv pv br) 76 (0, 0))) :
    Calls Try.prog 39 #[.pointer (some ⟨jb, 0, none⟩)] w fun e w' => e = .returned (.int .i64 (jState br)) ∧ w' = w := by
  have hc := cell_of h
  simp only [jcells] at hc
  cases br
  all_goals
    go_enter Try.func39, Try.ntmps39
    go_wp2_with fail
    go_ret
    exact ⟨rfl, rfl⟩
theorem state_n (w : World) : Calls Try.prog 39 #[.pointer none] w fun e w' => e = .returned (.int .i64 1) ∧ w' = w := by
  go_enter Try.func39, Try.ntmps39
  go_wp2_with fail
  go_ret
  exact ⟨rfl, rfl⟩
theorem first_c (w : World) (jb vb : Nat) (p : Pg) (gv pv : Value) (br : Bool) (h : w.heap[jb]? = some (.cells (jcells vb p gv pv br) 76 (0, 0))) :
    Calls Try.prog 32 #[.pointer (some ⟨jb, 0, none⟩)] w fun e w' => e = .returned (.int .i64 p.f) ∧ w' = w := by
  have hc := cell_of h
  simp only [jcells] at hc
  go_enter Try.func32, Try.ntmps32
  go_wp2_with fail
  go_ret
  exact ⟨rfl, rfl⟩
theorem first_n (w : World) : Calls Try.prog 32 #[.pointer none] w fun e w' => e = .returned (.int .i64 0) ∧ w' = w := by
  go_enter Try.func32, Try.ntmps32
  go_wp2_with fail
  go_ret
  exact ⟨rfl, rfl⟩
theorem last_c (w : World) (jb vb : Nat) (p : Pg) (ao : Option Addr) (gn gc : Nat) (pv : Value) (br : Bool) (h : w.heap[jb]? = some (.cells (jcells vb p (.slice ao gn gc) pv br) 76 (0, 0))) (hf : p.f ≤ 140737488355328) (hg : gn ≤ 140737488355328) :
    Calls Try.prog 34 #[.pointer (some ⟨jb, 0, none⟩)] w fun e w' => e = .returned (.int .i64 ((p.f : Int) + gn - 1)) ∧ Keep [] w w' := by
  have hc := cell_of h
  simp only [jcells] at hc
  go_enter Try.func34, Try.ntmps34
  go_wp2_with fail
  go_big_quiet (fail)
  go_wp2_with fail
  go_ret
  exact ⟨rfl, Keep.drewN _ _ _⟩
theorem last_n (w : World) : Calls Try.prog 34 #[.pointer none] w fun e w' => e = .returned (.int .i64 0) ∧ w' = w := by
  go_enter Try.func34, Try.ntmps34
  go_wp2_with fail
  go_ret
  exact ⟨rfl, rfl⟩
theorem ring_c (w : World) (jb vb mb : Nat) (p : Pg) (gv pv pw : Value) (br : Bool) (v : Vol) (R : Nat) (h : w.heap[jb]? = some (.cells (jcells vb p gv pv br) 76 (0, 0))) (hv : VolAt w vb mb pw v) (hR : v.sectors = R + 2) (hR2 : R ≤ 65534) :
    Calls Try.prog 43 #[.pointer (some ⟨jb, 0, none⟩)] w fun e w' => e = .returned (.int .i64 R) ∧ w' = w := by
  have hc := cell_of h
  simp only [jcells] at hc
  have HL := Lib.hid (len_c w vb mb pw v hv)
  rw [hR] at HL
  clear hv
  go_enter Try.func43, Try.ntmps43
  go_wp2_with fail
  refine HL.out.mono ?_
  rintro e w' ⟨rfl, rfl⟩
  have hrr : ((R : Int) + 2 - 2) = R := by omega
  go_wp2_with fail
  go_ret
  exact ⟨rfl, rfl⟩
theorem sector_c (w : World) (jb vb mb : Nat) (p : Pg) (gv pv pw : Value) (br : Bool) (v : Vol) (R x : Nat) (h : w.heap[jb]? = some (.cells (jcells vb p gv pv br) 76 (0, 0))) (hv : VolAt w vb mb pw v) (hR : v.sectors = R + 2) (hR2 : R ≤ 65534) (hR0 : 0 < R) (hx : x ≤ 140737488355328) :
    Calls Try.prog 54 #[.pointer (some ⟨jb, 0, none⟩), .int .i64 x] w fun e w' => e = .returned (.int .i64 ((2 + x % R : Nat) : Int)) ∧ w' = w := by
  have HL := Lib.hid (ring_c w jb vb mb p gv pv pw br v R h hv hR hR2)
  have hlt := Nat.mod_lt x hR0
  have hcast : ((2 + x % R : Nat) : Int) = 2 + (x : Int) % R := by omega
  have hb : (x : Int) % R ≤ 65534 := by omega
  have hb0 : 0 ≤ (x : Int) % R := by omega
  have hne : ((R : Int) == 0) = false := by rw [beq_eq_false_iff_ne]; omega
  rw [hcast]
  clear h hv hlt hcast
  go_enter Try.func54, Try.ntmps54
  go_wp2_with fail
  refine HL.out.mono ?_
  rintro e w' ⟨rfl, rfl⟩
  go_wp2_with fail
  go_ret
  exact ⟨rfl, rfl⟩
theorem free_c (w : World) (jb vb mb : Nat) (p : Pg) (gv pv pw : Value) (br : Bool) (v : Vol) (R : Nat) (h : w.heap[jb]? = some (.cells (jcells vb p gv pv br) 76 (0, 0))) (hv : VolAt w vb mb pw v) (hR : v.sectors = R + 2) (hR2 : R ≤ 65534) (hk : p.k ≤ 140737488355328) :
    Calls Try.prog 21 #[.pointer (some ⟨jb, 0, none⟩)] w fun e w' => e = .returned (.int .i64 ((R : Int) - p.k)) ∧ Keep [] w w' := by
  have HL : Hid (∀ n : KW w, Calls Try.prog 43 #[.pointer (some ⟨jb, 0, none⟩)] (Wk w n) fun e w' => e = .returned (.int .i64 R) ∧ ∃ m, w' = Wk w m) := fun n =>
    (ring_c (Wk w n) jb vb mb p gv pv pw br v R (n.k.heap h (by simp)) (hv.keep n.k (by simp) (by simp) (by simp)) hR hR2).mono fun e w' h => ⟨h.1, n, h.2⟩
  have hc : ∀ n : KW w, ∀ i, (Wk w n).cell? ⟨jb, i, none⟩ = (jcells vb p gv pv br)[i]? := fun n => cell_of (n.k.heap h (by simp))
  simp only [jcells] at hc
  have hc4 := fun n => hc n 4
  simp only [List.getElem?_toArray, List.getElem?_cons_zero, List.getElem?_cons_succ] at hc4
  clear h hv hc
  go_enter Try.func21, Try.ntmps21
  go_wp2_with fail
  refine wp_region_keep (by kernel_rfl) (by kernel_rfl) ?_
  repeat (first
    | go_big_quiet_skip
    | (go_big_quiet_want; go_big_quiet_op; first | go_big_quiet_on | go_big_quiet_call (first
      | (go_at_call 43; exact HL.out _))))
  refine wpQuiet_nil ?_
  rintro w1 ⟨⟨_, hk1⟩, rfl⟩
  have Hk1 := Lib.hid hk1
  clear hk1
  go_wp2_with fail
  go_ret
  exact ⟨rfl, Hk1.out⟩
theorem free_n (w : World) : Calls Try.prog 21 #[.pointer none] w fun e w' => e = .returned (.int .i64 0) ∧ w' = w := by
  go_enter Try.func21, Try.ntmps21
  go_wp2_with fail
  go_ret
  exact ⟨rfl, rfl⟩
end Go.Proofs.Ytgmggmpkbfljfaa

/- Append, Pending, Discard. -/
set_option linter.unusedVariables false
set_option linter.unusedSimpArgs false
set_option maxRecDepth 100000
namespace Go.Proofs.Ytgmggmpkbfljfaa
open Go.RowKit
theorem infoS : (Try.prog.info? 9).map (fun i => (i.zero, i.size, i.bytes)) = some (some (.string ⟨#[]⟩), 1, 16) := by kernel_rfl
theorem one_str (s : ByteArray) : ∀ u ∈ [Value.string s], u.oneCell' = true := by intro u hu; simp at hu; subst hu; rfl
def jApp (J : Jn) (r : ByteArray) : Int × Jn := if J.broken then (18, J) else if 16384 < r.size then (28, J) else if 256 ≤ J.pend.length then (3, J) else (0, { J with pend := J.pend ++ [r] })
theorem own_to {w w' : World} {e : TypeId} {size n m g cap : Nat} {v : Value} {xs ys : List Value} {F : List Nat} (h : OwnH e size v n xs w F) (h2 : w'.ownsRow 0 e size (.slice (some ⟨g, 0, none⟩) m cap) m ys) (hg : w.grownBy w' v.ownBlock) (hf : some g = v.ownBlock ∨ w.heap.size ≤ g) :
    To (OwnH e size (.slice (some ⟨g, 0, none⟩) m cap) m ys) F w w' := by
  obtain ⟨h1, rfl⟩ := h
  refine ⟨[g], ⟨h2, rfl⟩, Keep.grown hg (fun k hk => by rw [hk]; simp), fun x hx => ?_⟩
  simp at hx; subst hx
  rcases hf with h | h
  · left; rw [← h]; simp
  · exact .inr h
theorem JS.setPend {jb vb : Nat} {p : Pg} {br : Bool} {gv pv : Value} {G : GL} {gv' pv' pv'' : Value} {G' : GL} {l l' : List ByteArray} {w w' : World} {F : List Nat} (h : JS jb vb p br gv pv G gv' pv' G' l w F)
    (ht : ∀ F, OwnH 9 1 pv' l.length (scells l) w F → To (OwnH 9 1 pv'' l'.length (scells l')) F w w') : To (JS jb vb p br gv pv G gv' pv'' G' l') F w w' :=
  To.right (boxH_stab _ _ _) h fun _ h => To.right (ownH_stab _ _ _ _ _) h fun _ h => To.left (rowsH_stab _) h ht
theorem JS.setBox {jb vb : Nat} {p q : Pg} {br cr : Bool} {gv pv hv qv : Value} {G : GL} {gv' pv' : Value} {G' : GL} {l : List ByteArray} {w : World} {F : List Nat} (h : JS jb vb p br gv pv G gv' pv' G' l w F) (i : Nat) (v : Value)
    (hc : (jcells vb p gv pv br).setIfInBounds i v = jcells vb q hv qv cr) : To (JS jb vb q cr hv qv G gv' pv' G' l) F w (w.setCell ⟨jb, i, none⟩ v) :=
  To.left ((ownH_stab _ _ _ _ _).sep ((ownH_stab _ _ _ _ _).sep (rowsH_stab _))) h fun _ h => box_set i v hc h
theorem To.box {jb vb : Nat} {p : Pg} {br : Bool} {gv pv : Value} {G : GL} {gv' pv' : Value} {G' : GL} {l : List ByteArray} {w w' : World} {F : List Nat} (h : To (JS jb vb p br gv pv G gv' pv' G' l) F w w') :
    w'.heap[jb]? = some (.cells (jcells vb p gv pv br) 76 (0, 0)) := by
  obtain ⟨F', h1, _⟩ := h; exact h1.box
set_option maxHeartbeats 2000000 in
theorem append_ok (jb vb : Nat) (J : Jn) (r : ByteArray) (hb : J.broken = false) (hr : r.size ≤ 16384) (hl : J.pend.length < 256) :
    Met Try.prog 13 #[.pointer (some ⟨jb, 0, none⟩), .string r] (.int .i64 0) (JH jb vb J) (JH jb vb { J with pend := J.pend ++ [r] }) := by
  rintro w F ⟨gv, pv, G, hG, hJ⟩
  obtain ⟨i0, hi, hz0, hz1, hz2⟩ := info_parts infoS
  have Hi := Lib.hid (And.intro hi (And.intro hz0 (And.intro hz1 hz2)))
  clear hi hz0 hz1 hz2
  obtain ⟨pg, groups, pend, broken⟩ := J
  dsimp only at hb hl hG hJ ⊢
  subst hb
  obtain ⟨po, pc, rfl⟩ := own_form hJ.pnd
  have HS := Lib.hid (state_c w jb vb pg gv (.slice po pend.length pc) false hJ.box)
  have hc := cell_of hJ.box
  have hf := frozen_of hJ.box
  simp only [jcells] at hc
  have HJ := Lib.hid hJ
  have HG := Lib.hid hG
  clear hJ hG
  go_enter Try.func13, Try.ntmps13
  go_wp2_with fail
  refine HS.out.mono ?_
  rintro e w' ⟨rfl, rfl⟩
  have hj0 : jState false = 0 := rfl
  rw [hj0]
  go_wp2_with (at_builtin; refine wpList_append2 _ rfl _ _ 31 rfl 9 i0 _ 1 16 Try.underlying31 Hi.out.1 Hi.out.2.1 Hi.out.2.2.1 Hi.out.2.2.2 rfl (by decide) _ _ _ rfl ((own_keep' HJ.out.pnd (Keep.alloc [] _ _) (by simp))) ⟨w'.heap.size, 0, none⟩ 1 1 [.string r] rfl rfl (one_news _ _ _) (one_str r) ?c2 ?c3 ?c4 ?_)
  case c2 => decide
  case c3 => unfold maxLen; omega
  case c4 => omega
  intro g cap wa hoa hga hfa
  rw [scells_snoc] at hoa
  have hle : (pend ++ [r]).length = pend.length + 1 := by simp
  have ht : To (JS jb vb pg false gv (.slice po pend.length pc) G gv (.slice (some ⟨g, 0, none⟩) (pend.length + 1) cap) G (pend ++ [r])) F w' wa := by
    have h1 := (js_stab _ _ _ _ _ _ _ _ _ _ _).keep HJ.out (Keep.alloc [] w' (.cells #[Value.string r] 9)) (by simp)
    refine To.from (h1.setPend fun F' hF' => ?_) ((Keep.alloc [] w' (.cells #[Value.string r] 9)).mono (by simp))
    rw [hle]
    exact own_to hF' hoa hga (by simpa using hfa)
  have hc2 := cell_of ht.box
  have hf2 := frozen_of ht.box
  simp only [jcells] at hc2
  have Ht := Lib.hid ht
  clear ht hoa hga hfa hc hf
  go_wp2_with fail
  go_ret
  refine ⟨rfl, (Ht.out.trans fun F' h => h.setBox (q := pg) (cr := false) (hv := gv) (qv := .slice (some ⟨g, 0, none⟩) (pend.length + 1) cap) 6 _ rfl).imp fun w F h => ⟨_, _, G, HG.out, h⟩⟩
theorem append_e (jb vb : Nat) (J : Jn) (r : ByteArray) (hs : r.size ≤ 140737488355328) (hl : J.pend.length ≤ 256) (hno : ¬ (J.broken = false ∧ r.size ≤ 16384 ∧ J.pend.length < 256)) (w : World) (F : List Nat) (h : JH jb vb J w F) :
    Calls Try.prog 13 #[.pointer (some ⟨jb, 0, none⟩), .string r] w fun e w' => e = .returned (.int .i64 (jApp J r).1) ∧ w' = w := by
  obtain ⟨gv, pv, G, hG, hJ⟩ := h
  obtain ⟨pg, groups, pend, broken⟩ := J
  unfold jApp
  dsimp only at hl hno hJ ⊢
  obtain ⟨po, pc, rfl⟩ := own_form hJ.pnd
  have HS := Lib.hid (state_c w jb vb pg gv (.slice po pend.length pc) broken hJ.box)
  have hc := cell_of hJ.box
  simp only [jcells] at hc
  clear hJ hG
  cases broken
  · by_cases h1 : 16384 < r.size
    · clear hno
      go_enter Try.func13, Try.ntmps13
      go_wp2_with fail
      refine HS.out.mono ?_
      rintro e w' ⟨rfl, rfl⟩
      have hj0 : jState false = 0 := rfl
      rw [hj0]
      go_wp2_with fail
      go_ret
      exact ⟨by simp [h1], rfl⟩
    · have h2 : pend.length = 256 := by
        have h3 : ¬ pend.length < 256 := fun h3 => hno ⟨rfl, by omega, h3⟩
        omega
      have h4 : r.size ≤ 16384 := by omega
      rw [h2] at hc
      clear hno
      go_enter Try.func13, Try.ntmps13
      go_wp2_with fail
      refine HS.out.mono ?_
      rintro e w' ⟨rfl, rfl⟩
      have hj0 : jState false = 0 := rfl
      rw [hj0]
      go_wp2_with fail
      go_ret
      exact ⟨by simp [h1, h2], rfl⟩
  · go_enter Try.func13, Try.ntmps13
    go_wp2_with fail
    refine HS.out.mono ?_
    rintro e w' ⟨rfl, rfl⟩
    have hj0 : jState true = 18 := rfl
    rw [hj0]
    go_wp2_with fail
    go_ret
    exact ⟨rfl, rfl⟩
theorem append_m (jb vb : Nat) (J : Jn) (r : ByteArray) (hs : r.size ≤ 140737488355328) (hl : J.pend.length ≤ 256) :
    Met Try.prog 13 #[.pointer (some ⟨jb, 0, none⟩), .string r] (.int .i64 (jApp J r).1) (JH jb vb J) (JH jb vb (jApp J r).2) := by
  by_cases h : J.broken = false ∧ r.size ≤ 16384 ∧ J.pend.length < 256
  · have e : jApp J r = (0, { J with pend := J.pend ++ [r] }) := by
      unfold jApp; rw [if_neg (by simp [h.1]), if_neg (by omega), if_neg (by omega)]
    rw [e]
    exact append_ok jb vb J r h.1 h.2.1 h.2.2
  · have e : (jApp J r).2 = J := by
      unfold jApp
      split
      · rfl
      split
      · rfl
      split
      · rfl
      · rename_i h1 h2 h3; exact absurd ⟨by simpa using h1, by omega, by omega⟩ h
    rw [e]
    intro w F hF
    exact (append_e jb vb J r hs hl h w F hF).mono fun e w' hk => ⟨hk.1, by rw [hk.2]; exact To.refl hF⟩
/-! ### Pending, Discard -/
theorem row_cells_of {w : World} {g n cap : Nat} {l : List ByteArray} (h : w.ownsRow 0 9 1 (.slice (some ⟨g, 0, none⟩) n cap) n (scells l)) : ∀ j, j < l.length → w.cell? ⟨g, 0 + j, none⟩ = some (.string (l.getD j ByteArray.empty)) := by
  intro j hj
  have := h.cells (g := g) rfl j (.string (l.getD j ByteArray.empty)) (by rw [scells_get l j hj, List.getD_eq_getElem?_getD, List.getElem?_eq_getElem hj]; rfl)
  rwa [Addr.add_lit] at this
/-- A clone of a row of strings. -/
theorem cloneS_c (w : World) (v : Value) (l : List ByteArray) (h : RowR w v (scells l)) (hl : l.length ≤ 1000000) :
    Calls Try.prog 40 #[v] w fun e w' => ∃ v', e = .returned v' ∧ w'.ownsRow w.heap.size 9 1 v' l.length (scells l) ∧ Keep [] w w' := by
  rcases h with ⟨rfl, hx⟩ | ⟨g, o, c, rfl, hg, hc⟩
  · have hx : l = [] := by simpa [scells] using hx
    subst hx
    refine (Try.slices_Clone_string_nil 0 0 w).mono ?_
    rintro e w' ⟨rfl, rfl⟩
    exact ⟨_, rfl, ⟨rfl, .inl ⟨rfl, rfl⟩⟩, Keep.refl _ _⟩
  · rw [scells_length]
    refine (Try.slices_Clone_string g o l.length c l w (Nat.le_refl _) (by omega) (fun j hj => ?_)).mono ?_
    · refine hc j _ ?_
      rw [scells_get l j hj, List.getD_eq_getElem?_getD, List.getElem?_eq_getElem hj]; rfl
    · rintro e w' ⟨v', rfl, h1, _, h2⟩
      rw [List.take_length] at h1
      exact ⟨v', rfl, h1, Keep.of_below h2⟩
theorem pending_c (w : World) (jb vb : Nat) (p : Pg) (br : Bool) (gv pv : Value) (l : List ByteArray) (h : w.heap[jb]? = some (.cells (jcells vb p gv pv br) 76 (0, 0))) (hp : RowR w pv (scells l)) (hl : l.length ≤ 1000000) :
    Calls Try.prog 14 #[.pointer (some ⟨jb, 0, none⟩)] w fun e w' => ∃ v', e = .returned v' ∧ w'.ownsRow w.heap.size 9 1 v' l.length (scells l) ∧ Keep [] w w' := by
  obtain ⟨po, pc, hpv⟩ := hp.form
  have HC := Lib.hid (cloneS_c w pv l hp hl)
  rw [hpv] at HC h
  have hc := cell_of h
  simp only [jcells] at hc
  clear hp hpv h
  go_enter Try.func14, Try.ntmps14
  go_wp2_with fail
  refine HC.out.mono ?_
  rintro e w' ⟨v', rfl, h1, h2⟩
  have H1 := Lib.hid h1
  have H2 := Lib.hid h2
  clear h1 h2
  go_wp2_with fail
  go_ret
  exact ⟨_, rfl, H1.out, H2.out⟩
theorem pending_n (w : World) : Calls Try.prog 14 #[.pointer none] w fun e w' => e = .returned (.slice none 0 0) ∧ w' = w := by
  go_enter Try.func14, Try.ntmps14
  go_wp2_with fail
  go_ret
  exact ⟨rfl, rfl⟩
theorem own_nil (w : World) (e : TypeId) (size : Nat) : w.ownsRow 0 e size (.slice none 0 0) 0 [] := ⟨by simp, .inl ⟨rfl, rfl⟩⟩
def jDisc (J : Jn) : Int × Jn := if J.broken then (18, J) else (0, { J with pend := [] })
theorem discard_m (jb vb : Nat) (J : Jn) : Met Try.prog 15 #[.pointer (some ⟨jb, 0, none⟩)] (.int .i64 (jDisc J).1) (JH jb vb J) (JH jb vb (jDisc J).2) := by
  rintro w F ⟨gv, pv, G, hG, hJ⟩
  obtain ⟨pg, groups, pend, broken⟩ := J
  unfold jDisc
  dsimp only at hG hJ ⊢
  have HS := Lib.hid (state_c w jb vb pg gv pv broken hJ.box)
  have hc := cell_of hJ.box
  have hf := frozen_of hJ.box
  simp only [jcells] at hc
  have HJ := Lib.hid hJ
  have HG := Lib.hid hG
  clear hJ hG
  cases broken
  · go_enter Try.func15, Try.ntmps15
    go_wp2_with fail
    refine HS.out.mono ?_
    rintro e w' ⟨rfl, rfl⟩
    have hj0 : jState false = 0 := rfl
    rw [hj0]
    go_wp2_with fail
    go_ret
    refine ⟨rfl, ?_⟩
    have h1 := HJ.out.setBox (q := pg) (cr := false) (hv := gv) (qv := .slice none 0 0) 6 (.slice none 0 0) rfl
    refine (h1.trans fun F' h => h.setPend (pv'' := .slice none 0 0) (l' := []) fun F hF => ⟨[], ⟨own_nil _ _ _, rfl⟩, Keep.refl _ _, by simp⟩).imp fun w F h => ⟨gv, _, G, HG.out, h⟩
  · go_enter Try.func15, Try.ntmps15
    go_wp2_with fail
    refine HS.out.mono ?_
    rintro e w' ⟨rfl, rfl⟩
    have hj0 : jState true = 18 := rfl
    rw [hj0]
    go_wp2_with fail
    go_ret
    exact ⟨rfl, To.refl ⟨_, _, G, HG.out, HJ.out⟩⟩
theorem discard_n (w : World) : Calls Try.prog 15 #[.pointer none] w fun e w' => e = .returned (.int .i64 1) ∧ w' = w := by
  go_enter Try.func15, Try.ntmps15
  go_wp2_with fail
  refine (state_n _).mono ?_
  rintro e w' ⟨rfl, rfl⟩
  go_wp2_with fail
  first | (go_ret; exact ⟨rfl, rfl⟩) | (go_ret2; exact ⟨rfl, rfl⟩)
theorem commit_n (w : World) : Calls Try.prog 22 #[.pointer none] w fun e w' => e = .returned (.tuple #[.int .i64 0, .int .i64 1]) ∧ w' = w := by
  go_enter Try.func22, Try.ntmps22
  go_wp2_with fail
  refine (state_n _).mono ?_
  rintro e w' ⟨rfl, rfl⟩
  go_wp2_with fail
  first | (go_ret; exact ⟨rfl, rfl⟩) | (go_ret2; exact ⟨rfl, rfl⟩)
theorem append_n (r : ByteArray) (w : World) : Calls Try.prog 13 #[.pointer none, .string r] w fun e w' => e = .returned (.int .i64 1) ∧ w' = w := by
  go_enter Try.func13, Try.ntmps13
  go_wp2_with fail
  refine (state_n _).mono ?_
  rintro e w' ⟨rfl, rfl⟩
  go_wp2_with fail
  go_ret; exact ⟨rfl, rfl⟩
theorem drop_n (n : Int) (w : World) : Calls Try.prog 31 #[.pointer none, .int .i64 n] w fun e w' => e = .returned (.int .i64 1) ∧ w' = w := by
  go_enter Try.func31, Try.ntmps31
  go_wp2_with fail
  refine (state_n _).mono ?_
  rintro e w' ⟨rfl, rfl⟩
  go_wp2_with fail
  go_ret; exact ⟨rfl, rfl⟩
theorem group_n (n : Int) (w : World) : Calls Try.prog 30 #[.pointer none, .int .i64 n] w fun e w' => e = .returned (.tuple #[.slice none 0 0, .int .i64 1]) ∧ w' = w := by
  go_enter Try.func30, Try.ntmps30
  go_wp2_with fail
  refine (state_n _).mono ?_
  rintro e w' ⟨rfl, rfl⟩
  go_wp2_with fail
  go_ret2; exact ⟨rfl, rfl⟩
end Go.Proofs.Ytgmggmpkbfljfaa
