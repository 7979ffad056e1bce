import Derived.Test.YtgmggmpkbfljfaaCm
import Derived.Laws.AppendOwnNone
import Derived.Test.YtgmggmpkbfljfaaQa
/- The model of a journal in memory: append, used, commit. -/
set_option linter.unusedVariables false
set_option linter.unusedSimpArgs false
set_option maxRecDepth 100000
namespace Go.Proofs.Ytgmggmpkbfljfaa
open Go.RowKit
theorem infoSS : (Try.prog.info? 31).map (fun i => (i.zero, i.size, i.bytes)) = some (some (.slice none 0 0), 1, 24) := by kernel_rfl
theorem ownsRow_base0 {w : World} {base : Nat} {e : TypeId} {size : Nat} {v : Value} {n : Nat} {xs : List Value} (h : w.ownsRow base e size v n xs) : w.ownsRow 0 e size v n xs := by
  refine ⟨h.1, ?_⟩
  rcases h.2 with h | ⟨g, cap, cur, hv, hb, rest⟩
  · exact .inl h
  · exact .inr ⟨g, cap, cur, hv, Nat.zero_le _, rest⟩
theorem made0 (w : World) (e : TypeId) (size : Nat) : (w.alloc (.cells #[] e)).ownsRow w.heap.size e size (.slice (some ⟨w.heap.size, 0, none⟩) 0 0) 0 [] :=
  World.ownsRow_made w #[] 0 (Nat.le_refl _) (Nat.zero_le _) (by simp)
section
variable {P : Program} (w : World)
theorem run_append_row (base : Nat) (t ty e : TypeId) (i : TypeInfo) (z : Value) (bytes : Nat) (ht : P.underlying t = some (.slice e)) (hi : P.info? e = some i) (hz : i.zero = some z)
    (hsize : i.size = 1) (hby : i.bytes = bytes) (hzs : z.cells.size = 1)
    (v : Value) (n : Nat) (xs : List Value) (hown : w.ownsRow base e 1 v n xs) (x : Value) (news : List Value) (hx : RowR w x news) (h1 : ∀ u ∈ news, u.oneCell' = true)
    (h63 : n + news.length ≤ maxLen) (hbytes : (n + news.length) * bytes ≤ 140737488355328) (hbase : base ≤ w.heap.size) :
    ∃ v' w', (Builtin.append_ #[t, t] ty #[v, x]).run P w = .ok v' w' ∧ w'.ownsRow base e 1 v' (n + news.length) (xs ++ news) ∧ w.grownBy w' v.ownBlock := by
  rcases hx with ⟨rfl, rfl⟩ | ⟨g, o, c, rfl, hg, hc⟩
  · exact ⟨v, w, run_append_owned_none (P := P) (w := w) base t ty e i 1 ht hi v n xs hown, by simpa using hown, ⟨rfl, rfl, rfl, Nat.le_refl _, fun _ _ _ => rfl⟩⟩
  · obtain ⟨v', w', hr, ho, hg', _⟩ := run_append_own (P := P) w base t ty e i z 1 bytes ht hi hz hsize hby hzs (by decide) v n xs hown ⟨g, o, none⟩ news.length c news (by simp) (fun j u hj => by
      rw [Addr.add_lit]; exact hc j u hj) h1 h63 hbytes hbase
    exact ⟨v', w', hr, ho, hg'⟩
theorem wp_append_row {o : Oper} {a : Act} {K : Act → World → Prop} {Q : Exit → Act → World → Prop} (s y : Operand) (t : TypeId)
    (ho : o.op = .call { callee := .builtin .append, args := #[s, y], argTypes := #[t, t] })
    (base : Nat) (e : TypeId) (i : TypeInfo) (z : Value) (bytes : Nat) (ht : P.underlying t = some (.slice e)) (hi : P.info? e = some i) (hz : i.zero = some z)
    (hsize : i.size = 1) (hby : i.bytes = bytes) (hzs : z.cells.size = 1)
    (v : Value) (n : Nat) (xs : List Value) (hs : a.eval s = v) (hown : w.ownsRow base e 1 v n xs) (x : Value) (news : List Value) (hy : a.eval y = x) (hx : RowR w x news) (h1 : ∀ u ∈ news, u.oneCell' = true)
    (h63 : n + news.length ≤ maxLen) (hbytes : (n + news.length) * bytes ≤ 140737488355328) (hbase : base ≤ w.heap.size)
    (h : ∀ v' w', w'.ownsRow base e 1 v' (n + news.length) (xs ++ news) → w.grownBy w' v.ownBlock → K (a.put o.dst v') w') : o.wp P a w K Q := by
  obtain ⟨v', w', hr, h2, h3⟩ := run_append_row (P := P) w base t o.type e i z bytes ht hi hz hsize hby hzs v n xs hown x news hx h1 h63 hbytes hbase
  unfold Oper.wp execOp
  simp only [ho, resolve, invoke, builtin, Sem.run_bind, Sem.run_pure, Result.andThen_ok, List.map_toArray, List.map_cons, List.map_nil, hs, hy, hr]
  exact h v' w' h2 h3
theorem wpList_append_row {ops : Array Oper} {rest : List Oper} {o : Oper} {a : Act} {Q : Exit → Act → World → Prop} (hgd : o.guard = none) (s y : Operand) (t : TypeId)
    (ho : o.op = .call { callee := .builtin .append, args := #[s, y], argTypes := #[t, t] })
    (base : Nat) (e : TypeId) (i : TypeInfo) (z : Value) (bytes : Nat) (ht : P.underlying t = some (.slice e)) (hi : P.info? e = some i) (hz : i.zero = some z)
    (hsize : i.size = 1) (hby : i.bytes = bytes) (hzs : z.cells.size = 1)
    (v : Value) (n : Nat) (xs : List Value) (hs : a.eval s = v) (hown : w.ownsRow base e 1 v n xs) (x : Value) (news : List Value) (hy : a.eval y = x) (hx : RowR w x news) (h1 : ∀ u ∈ news, u.oneCell' = true)
    (h63 : n + news.length ≤ maxLen) (hbytes : (n + news.length) * bytes ≤ 140737488355328) (hbase : base ≤ w.heap.size)
    (h : ∀ v' w', w'.ownsRow base e 1 v' (n + news.length) (xs ++ news) → w.grownBy w' v.ownBlock → wpList P ops Q rest (a.put o.dst v') w') : wpList P ops Q (o :: rest) a w :=
  wpList_plain hgd fun _ hK => wp_append_row w s y t ho base e i z bytes ht hi hz hsize hby hzs v n xs hs hown x news hy hx h1 h63 hbytes hbase fun v' w' h2 h3 => hK _ _ (h v' w' h2 h3)
end
theorem scells_one (l : List ByteArray) : ∀ u ∈ scells l, u.oneCell' = true := by
  intro u hu
  obtain ⟨x, _, hx⟩ := List.mem_map.1 hu
  rw [← hx]; rfl
/-! ### the book -/
structure Bk where
  ring : Nat
  gen : Nat
  first : Nat
  place : Nat
  groups : List (List ByteArray)
  pend : List ByteArray
def bcells (r g f p : Nat) (gv pv : Value) : Array Value := #[.int .i64 r, .int .i64 g, .int .i64 f, .int .i64 p, gv, pv]
/-- What a book leans on and nobody turns. -/
def CapR (v : Value) : Prop := ∀ a n c, v = .slice a n c → n ≤ c
theorem CapR.of_own {w : World} {base : Nat} {e : TypeId} {size n : Nat} {v : Value} {xs : List Value} (h : w.ownsRow base e size v n xs) : CapR v := by
  intro a m c e
  rcases h.2 with ⟨hv, h0⟩ | ⟨g, cap, cur, hv, _, _, hn, _⟩
  · rw [hv] at e; injection e with e1 e2 e3; omega
  · rw [hv] at e; injection e with e1 e2 e3; omega
theorem CapR.none : CapR (.slice .none 0 0) := by intro a m c e; injection e with e1 e2 e3; omega
def BkR (gv pv : Value) (G : GL) (l : List ByteArray) : HP := fun w F =>
  (RowR w gv (G.map (·.1)) ∧ CapR gv) ∧ (∀ x ∈ G, RowR w x.1 (scells x.2)) ∧ RowR w pv (scells l) ∧ F = rowF gv ++ (G.flatMap (fun x => rowF x.1) ++ rowF pv)
theorem bkR_stab (gv pv : Value) (G : GL) (l : List ByteArray) : Stab (BkR gv pv G l) where
  keep := by
    rintro w w' F E ⟨h1, h2, h3, rfl⟩ hk hd
    refine ⟨⟨h1.1.keep hk (fun y hy => hd y (by simp [hy])), h1.2⟩, fun x hx => (h2 x hx).keep hk (fun y hy => hd y ?_), h3.keep hk (fun y hy => hd y (by simp [hy])), rfl⟩
    exact List.mem_append_right _ (List.mem_append_left _ (List.mem_flatMap.2 ⟨x, hx, hy⟩))
  lt := by
    rintro w F ⟨h1, h2, h3, rfl⟩ y hy
    rcases List.mem_append.1 hy with hy | hy
    · exact h1.1.lt y hy
    · rcases List.mem_append.1 hy with hy | hy
      · obtain ⟨x, hx, hy⟩ := List.mem_flatMap.1 hy
        exact (h2 x hx).lt y hy
      · exact h3.lt y hy
def BS (bk r g f p : Nat) (gv pv : Value) (G : GL) (l : List ByteArray) : HP := Sep (BoxH bk (bcells r g f p gv pv) 43) (BkR gv pv G l)
def BH (bk : Nat) (B : Bk) : HP := fun w F => ∃ gv pv G, G.map (·.2) = B.groups ∧ BS bk B.ring B.gen B.first B.place gv pv G B.pend w F
theorem bs_stab (bk r g f p : Nat) (gv pv : Value) (G : GL) (l : List ByteArray) : Stab (BS bk r g f p gv pv G l) := (boxH_stab _ _ _).sep (bkR_stab _ _ _ _)
theorem bh_stab (bk : Nat) (B : Bk) : Stab (BH bk B) where
  keep := by
    rintro w w' F G ⟨gv, pv, G', h1, h⟩ hk hd
    exact ⟨gv, pv, G', h1, (bs_stab _ _ _ _ _ _ _ _ _).keep h hk hd⟩
  lt := by
    rintro w F ⟨gv, pv, G', h1, h⟩
    exact (bs_stab _ _ _ _ _ _ _ _ _).lt h
theorem BS.box {bk r g f p : Nat} {gv pv : Value} {G : GL} {l : List ByteArray} {w : World} {F : List Nat} (h : BS bk r g f p gv pv G l w F) : w.heap[bk]? = some (.cells (bcells r g f p gv pv) 43 (0, 0)) := by
  obtain ⟨F1, F2, h1, _⟩ := h; exact h1.2
theorem BS.rows {bk r g f p : Nat} {gv pv : Value} {G : GL} {l : List ByteArray} {w : World} {F : List Nat} (h : BS bk r g f p gv pv G l w F) : RowR w gv (G.map (·.1)) ∧ (∀ x ∈ G, RowR w x.1 (scells x.2)) ∧ RowR w pv (scells l) := by
  obtain ⟨F1, F2, h1, h2, _⟩ := h; exact ⟨h2.1.1, h2.2.1, h2.2.2.1⟩
theorem BS.cap {bk r g f p : Nat} {gv pv : Value} {G : GL} {l : List ByteArray} {w : World} {F : List Nat} (h : BS bk r g f p gv pv G l w F) : CapR gv := by
  obtain ⟨F1, F2, h1, h2, _⟩ := h; exact h2.1.2
def bApp (B : Bk) (s : ByteArray) : Int × Bk := if 16384 < s.size then (28, B) else if 256 ≤ B.pend.length then (3, B) else (0, { B with pend := B.pend ++ [s] })
theorem row_ge {w : World} {B : Nat} {e : TypeId} {size n : Nat} {v : Value} {xs : List Value} (h : w.ownsRow B e size v n xs) : ∀ x ∈ rowF v, B ≤ x := by
  intro x hx
  rw [rowF_own (ownsRow_base0 h)] at hx
  exact (h.lt x (by simpa using hx)).1
/-- What a call does that writes the box alone. -/
def ToB (bk : Nat) (A' : HP) (F : List Nat) (w w' : World) : Prop := ∃ F', A' w' F' ∧ Keep [bk] w w' ∧ ∀ x ∈ F', x ∈ F ∨ w.heap.size ≤ x
theorem ToB.refl {bk : Nat} {A : HP} {F : List Nat} {w : World} (h : A w F) : ToB bk A F w w := ⟨F, h, Keep.refl _ _, fun x hx => .inl hx⟩
theorem ToB.of_keep {bk : Nat} {A : HP} (hA : Stab A) {F : List Nat} {w w' : World} (h : A w F) (hk : Keep [] w w') : ToB bk A F w w' := ⟨F, hA.keep h hk (by simp), hk.mono (by simp), fun x hx => .inl hx⟩
theorem ToB.imp {bk : Nat} {A B : HP} {F : List Nat} {w w' : World} (h : ToB bk A F w w') (hi : ∀ w F, A w F → B w F) : ToB bk B F w w' := by
  obtain ⟨F', h1, h2⟩ := h; exact ⟨F', hi _ _ h1, h2⟩
theorem ToB.before {bk : Nat} {A : HP} {F F' : List Nat} {w w1 w2 : World} (h : ToB bk A F' w1 w2) (hk : Keep [bk] w w1) (hs : ∀ x ∈ F', x ∈ F ∨ w.heap.size ≤ x) : ToB bk A F w w2 := by
  obtain ⟨G, h1, h2, h3⟩ := h
  refine ⟨G, h1, hk.trans h2 (fun x hx => .inl hx), fun x hx => ?_⟩
  rcases h3 x hx with h | h
  · exact hs x h
  · exact .inr (by have := hk.size; omega)
theorem ToB.to {bk : Nat} {A : HP} {F : List Nat} {w w' : World} (h : ToB bk A F w w') (hm : bk ∈ F) : To A F w w' := by
  obtain ⟨G, h1, h2, h3⟩ := h
  exact ⟨G, h1, h2.mono (fun x hx => by simp at hx; subst hx; exact hm), h3⟩
def MetB (bk : Nat) (P : Program) (f : Nat) (args : Array Value) (r : Value) (A A' : HP) : Prop := ∀ w F, A w F → Calls P f args w fun e w' => e = .returned r ∧ ToB bk A' F w w'
theorem MetB.met {bk : Nat} {P : Program} {f : Nat} {args : Array Value} {r : Value} {A A' : HP} (h : MetB bk P f args r A A') (hm : ∀ w F, A w F → bk ∈ F) : Met P f args r A A' :=
  fun w F hF => (h w F hF).mono fun e w' hk => ⟨hk.1, hk.2.to (hm w F hF)⟩
theorem bh_mem {bk : Nat} {B : Bk} (w : World) (F : List Nat) (h : BH bk B w F) : bk ∈ F := by
  obtain ⟨_, _, _, _, F1, F2, ⟨rfl, _⟩, _, _, rfl⟩ := h
  simp
/-- A book with other rows and fields. -/
theorem BS.put {bk r g f p r' g' f' p' : Nat} {gv pv gv' pv' : Value} {G G' : GL} {l l' : List ByteArray} {w w' w'' : World} {F P' : List Nat} (h : BS bk r g f p gv pv G l w F) (hk : Keep [] w w') (hR : BkR gv' pv' G' l' w' P')
    (hP : ∀ x ∈ P', x ∈ rowF gv ++ (G.flatMap (fun x => rowF x.1) ++ rowF pv) ∨ w.heap.size ≤ x) (hk2 : Keep [bk] w' w'') (hb : w''.heap[bk]? = some (.cells (bcells r' g' f' p' gv' pv') 43 (0, 0))) : ToB bk (BS bk r' g' f' p' gv' pv' G' l') F w w'' := by
  obtain ⟨F1, F2, ⟨rfl, h1⟩, h2, hd, rfl⟩ := h
  have hlt := lt_of_heap h1
  have hne : ∀ x ∈ P', x ≠ bk := fun x hx e => by
    rcases hP x hx with h | h
    · exact hd bk (by simp) (by rw [h2.2.2.2, ← e]; exact h)
    · omega
  refine ⟨[bk] ++ P', ⟨[bk], P', ⟨rfl, hb⟩, (bkR_stab _ _ _ _).keep hR hk2 (fun x hx hm => hne x hx (by simpa using hm)), fun x hx hm => hne x hm (by simpa using hx), rfl⟩, (hk.mono (G := [bk]) (by simp)).trans hk2 (fun x hx => .inl hx), fun x hx => ?_⟩
  rcases List.mem_append.1 hx with h | h
  · exact .inl (List.mem_append_left _ h)
  · rcases hP x h with h | h
    · exact .inl (List.mem_append_right _ (by rw [h2.2.2.2]; exact h))
    · exact .inr h
set_option maxHeartbeats 4000000 in
theorem bappend_ok (bk : Nat) (B : Bk) (s : ByteArray) (hs : s.size ≤ 16384) (hl : B.pend.length < 256) :
    MetB bk Try.prog 18 #[.pointer (some ⟨bk, 0, none⟩), .string s] (.int .i64 0) (BH bk B) (BH bk { B with pend := B.pend ++ [s] }) := by
  rintro w F ⟨gv, pv, G, hG, hB⟩
  obtain ⟨i0, hi, hz0, hz1, hz2⟩ := info_parts infoS
  have Hi := Lib.hid (And.intro hi (And.intro hz0 (And.intro hz1 hz2)))
  clear hi hz0 hz1 hz2
  obtain ⟨r, g, f, p, groups, pend⟩ := B
  dsimp only at hl hG hB ⊢
  obtain ⟨hr1, hr2, hr3⟩ := hB.rows
  obtain ⟨po, pc, rfl⟩ := hr3.form
  rw [scells_length] at hB hr3
  have hc := cell_of hB.box
  have hf := frozen_of hB.box
  have hlt := lt_of_heap hB.box
  simp only [bcells] at hc
  have HB := Lib.hid hB
  have HG := Lib.hid hG
  have HR3 := Lib.hid hr3
  clear hB hG hr1 hr2 hr3
  go_enter Try.func18, Try.ntmps18
  go_wp2_with (at_builtin; refine wpList_append_row _ rfl _ _ 31 rfl w.heap.size 9 i0 _ 16 Try.underlying31 Hi.out.1 Hi.out.2.1 Hi.out.2.2.1 Hi.out.2.2.2 rfl _ 0 [] rfl (made0 w _ _) _ (scells pend) rfl (HR3.out.keep0 (Keep.alloc _ _ _)) (scells_one _) ?c1 ?c2 ?c3 ?_)
  case c1 => rw [scells_length]; unfold maxLen; omega
  case c2 => rw [scells_length]; omega
  case c3 => simp
  intro v2 w2 ho2 hg2
  have hk2 : Keep [] w w2 := (Keep.alloc [] w _).grownPast hg2 (by intro k hk; simp [Value.ownBlock] at hk; omega)
  have hb2 := hk2.heap HB.out.box (by simp)
  have hc2 := cell_of hb2
  have hf2 := frozen_of hb2
  simp only [bcells] at hc2
  have hs2 := hk2.size
  have Ho2 := Lib.hid ho2
  have Hk2 := Lib.hid hk2
  obtain ⟨vo, vc, rfl⟩ := own_form (ownsRow_base0 ho2)
  clear ho2 hg2 hk2 hb2 hc hf
  go_wp2_with (at_builtin; refine wpList_append_own _ rfl _ _ 31 rfl w.heap.size 9 i0 _ 1 16 Try.underlying31 Hi.out.1 Hi.out.2.1 Hi.out.2.2.1 Hi.out.2.2.2 rfl (by decide) _ _ _ rfl (Ho2.out.alloc _) ⟨w2.heap.size, 0, none⟩ 1 1 [.string s] rfl rfl (one_news _ _ _) (one_str s) ?d1 ?d2 ?d3 ?_)
  case d1 => have := scells_length pend; unfold maxLen; omega
  case d2 => have := scells_length pend; omega
  case d3 => simp; omega
  intro v3 w3 ho3 hg3 _
  rw [scells_snoc] at ho3
  have hk3 : Keep [] w w3 := (Hk2.out.allocPast _).grownPast hg3 (by intro k hk; have := (Ho2.out.lt k hk).1; omega)
  have hb3 := hk3.heap HB.out.box (by simp)
  have hc3 := cell_of hb3
  have hf3 := frozen_of hb3
  simp only [bcells] at hc3
  obtain ⟨uo, uc, rfl⟩ := own_form (ownsRow_base0 ho3)
  have Ho3 := Lib.hid ho3
  have Hk3 := Lib.hid hk3
  have Hb3 := Lib.hid hb3
  clear ho3 hg3 hk3 hb3 hc2 hf2
  go_wp2_with fail
  go_ret
  refine ⟨rfl, (HB.out.put Hk3.out (r' := r) (g' := g) (f' := f) (p' := p) (gv' := gv) (G' := G) (l' := pend ++ [s]) (w'' := _) ⟨⟨HB.out.rows.1.keep0 Hk3.out, HB.out.cap⟩, fun x hx => (HB.out.rows.2.1 x hx).keep0 Hk3.out, RowR.of_own (ownsRow_base0 Ho3.out), rfl⟩ (fun x hx => ?_) (Keep.setCell _ _ _ _ _ (by simp)) ?_).imp fun w F h => ⟨gv, _, G, HG.out, h⟩⟩
  · rcases List.mem_append.1 hx with h | h
    · exact .inl (List.mem_append_left _ h)
    · rcases List.mem_append.1 h with h | h
      · exact .inl (List.mem_append_right _ (List.mem_append_left _ h))
      · exact .inr (row_ge Ho3.out x h)
  · rw [set_same Hb3.out]; rfl
theorem bappend_e (bk : Nat) (B : Bk) (s : ByteArray) (hs : s.size ≤ 140737488355328) (hl : B.pend.length ≤ 256) (hno : ¬ (s.size ≤ 16384 ∧ B.pend.length < 256)) (w : World) (F : List Nat) (h : BH bk B w F) :
    Calls Try.prog 18 #[.pointer (some ⟨bk, 0, none⟩), .string s] w fun e w' => e = .returned (.int .i64 (bApp B s).1) ∧ w' = w := by
  obtain ⟨gv, pv, G, hG, hB⟩ := h
  obtain ⟨r, g, f, p, groups, pend⟩ := B
  unfold bApp
  dsimp only at hl hno hB ⊢
  obtain ⟨po, pc, rfl⟩ := hB.rows.2.2.form
  rw [scells_length] at hB
  have hc := cell_of hB.box
  simp only [bcells] at hc
  clear hB hG
  by_cases h1 : 16384 < s.size
  · clear hno
    go_enter Try.func18, Try.ntmps18
    go_wp2_with fail
    go_ret
    exact ⟨by simp [h1], rfl⟩
  · have h2 : pend.length = 256 := by
      have h3 : ¬ pend.length < 256 := fun h3 => hno ⟨by omega, h3⟩
      omega
    have h4 : s.size ≤ 16384 := by omega
    rw [h2] at hc
    clear hno
    go_enter Try.func18, Try.ntmps18
    go_wp2_with fail
    go_ret
    exact ⟨by simp [h1, h2], rfl⟩
theorem bappend_b (bk : Nat) (B : Bk) (s : ByteArray) (hs : s.size ≤ 140737488355328) (hl : B.pend.length ≤ 256) :
    MetB bk Try.prog 18 #[.pointer (some ⟨bk, 0, none⟩), .string s] (.int .i64 (bApp B s).1) (BH bk B) (BH bk (bApp B s).2) := by
  by_cases h : s.size ≤ 16384 ∧ B.pend.length < 256
  · have e : bApp B s = (0, { B with pend := B.pend ++ [s] }) := by
      unfold bApp; rw [if_neg (by omega), if_neg (by omega)]
    rw [e]
    exact bappend_ok bk B s h.1 h.2
  · have e : (bApp B s).2 = B := by
      unfold bApp
      split
      · rfl
      split
      · rfl
      · rename_i h2 h3; exact absurd ⟨by omega, by omega⟩ h
    rw [e]
    intro w F hF
    exact (bappend_e bk B s hs hl h w F hF).mono fun e w' hk => ⟨hk.1, by rw [hk.2]; exact ToB.refl hF⟩
theorem bappend_m (bk : Nat) (B : Bk) (s : ByteArray) (hs : s.size ≤ 140737488355328) (hl : B.pend.length ≤ 256) :
    Met Try.prog 18 #[.pointer (some ⟨bk, 0, none⟩), .string s] (.int .i64 (bApp B s).1) (BH bk B) (BH bk (bApp B s).2) :=
  (bappend_b bk B s hs hl).met bh_mem
/-! ### used -/
def usedN (L : List (List ByteArray)) : Nat := (L.map secsN).sum
theorem usedN_take (L : List (List ByteArray)) (k : Nat) (h : k < L.length) : usedN (L.take (k + 1)) = usedN (L.take k) + secsN L[k] := by
  unfold usedN; rw [take_succ_get L k h, List.map_append, List.sum_append, List.map_cons, List.map_nil, List.sum_cons, List.sum_nil, Nat.add_zero]
theorem usedN_take_le (L : List (List ByteArray)) (k : Nat) : usedN (L.take k) ≤ usedN L := by
  have := congrArg usedN (List.take_append_drop k L)
  unfold usedN at *
  rw [List.map_append, List.sum_append] at this
  omega
/-- The groups are small enough. -/
def GSmall (L : List (List ByteArray)) : Prop := ∀ l ∈ L, l.length ≤ 256 ∧ ∀ s ∈ l, s.size ≤ 16384
set_option maxHeartbeats 2000000 in
theorem used_c (w : World) (bk r g f p : Nat) (gv pv : Value) (G : GL) (h : w.heap[bk]? = some (.cells (bcells r g f p gv pv) 43 (0, 0))) (hr : RowR w gv (G.map (·.1))) (hx : ∀ x ∈ G, RowR w x.1 (scells x.2))
    (hs : GSmall (G.map (·.2))) (hl : G.length ≤ 1000000) (hu : usedN (G.map (·.2)) ≤ 1000000000) :
    Calls Try.prog 49 #[.pointer (some ⟨bk, 0, none⟩)] w fun e w' => e = .returned (.int .i64 (usedN (G.map (·.2)))) ∧ w' = w := by
  obtain ⟨go, gc, hgv⟩ := hr.form
  rw [List.length_map] at hgv
  subst hgv
  have hc := cell_of h
  simp only [bcells] at hc
  have HE : Hid (∀ k (hk : k < G.length), ∃ a o, go = some ⟨a, o, none⟩ ∧ w.cell? ⟨a, o + k, none⟩ = some (G[k]).1) := by
    intro k hk
    obtain ⟨a, o, c, he, hcell⟩ := hr.elem (by rw [List.length_map]; omega)
    injection he with he
    exact ⟨a, o, he, hcell k _ (by rw [List.getElem?_map, List.getElem?_eq_getElem hk]; rfl)⟩
  have HX := Lib.hid hx
  have HS := Lib.hid hs
  clear h hr hx hs
  go_enter Try.func49, Try.ntmps49
  go_wp2_with fail
  go_loopw [3, 4] (fun n i wr => ∃ k : Nat, k ≤ G.length ∧ i = .int .i64 k ∧ n = .int .i64 (usedN ((G.map (·.2)).take k)) ∧ wr = w) (fun _ i _ => G.length - (intOf i).toNat)
  case atStart => exact ⟨0, by omega, rfl, rfl, rfl⟩
  case round =>
    obtain ⟨k, hk, rfl, rfl, rfl⟩ := hrel
    have hule := usedN_take_le (G.map (·.2)) k
    by_cases hlt : k < G.length
    · obtain ⟨a, o, rfl, hcell⟩ := HE.out k hlt
      have hkm : k < (G.map (·.2)).length := by rw [List.length_map]; exact hlt
      have hus := usedN_take (G.map (·.2)) k hkm
      have hule2 := usedN_take_le (G.map (·.2)) (k + 1)
      rw [List.getElem_map] at hus
      have hsm := HS.out (G[k]).2 (List.mem_map.2 ⟨G[k], List.getElem_mem _, rfl⟩)
      have HSe := Lib.hid (sectors_c wr (G[k]).1 (G[k]).2 (HX.out _ (List.getElem_mem _)) hsm.1 hsm.2)
      have Hus := Lib.hid hus
      rw [hus] at hule2
      generalize usedN ((G.map (·.2)).take k) = u at *
      generalize secsN (G[k]).2 = q at *
      obtain ⟨so, sc, hform⟩ := (HX.out _ (List.getElem_mem hlt)).form
      rw [hform] at hcell HSe
      clear hus hsm hform hkm
      go_wp2_with fail
      refine HSe.out.mono ?_
      rintro e w2 ⟨rfl, hw2⟩
      dsimp only
      subst hw2
      go_wp2_with fail
      go_roundw
      case rel => exact ⟨k + 1, by omega, by go_num, by rw [Hus.out]; go_num, trivial⟩
      case measure => simp [intOf]; omega
    · obtain rfl : k = G.length := by omega
      have ht : (G.map (·.2)).take G.length = G.map (·.2) := List.take_of_length_le (by simp)
      rw [ht]
      go_wp2_with fail
      go_ret
      exact ⟨rfl, rfl⟩
end Go.Proofs.Ytgmggmpkbfljfaa

/- commit of the model. -/
set_option linter.unusedVariables false
set_option linter.unusedSimpArgs false
set_option maxRecDepth 100000
namespace Go.Proofs.Ytgmggmpkbfljfaa
open Go.RowKit
def bCommit (B : Bk) : (Int × Int) × Bk := if (B.ring : Int) - usedN B.groups < secsN B.pend then ((0, 19), B) else (((B.first + B.groups.length : Nat), 0), { B with groups := B.groups ++ [B.pend], pend := [], gen := B.gen + 1 })
theorem vals_one {G : GL} (h : ∀ x ∈ G, ∃ l n c, x.1 = Value.slice l n c) : ∀ u ∈ G.map (·.1), u.oneCell' = true := by
  intro u hu
  obtain ⟨x, hx, rfl⟩ := List.mem_map.1 hu
  obtain ⟨l, n, c, e⟩ := h x hx
  rw [e]; rfl
theorem slice_one {po : Option Addr} {n c : Nat} : ∀ u ∈ [Value.slice po n c], u.oneCell' = true := by intro u hu; simp at hu; subst hu; rfl
structure BFit (B : Bk) : Prop where
  r : B.ring ≤ 1000000
  g : B.gen ≤ 1000000
  f : B.first ≤ 1000000
  p : B.place ≤ 1000000
  n : B.groups.length ≤ 1000000
  l : B.pend.length ≤ 256
  s : ∀ s ∈ B.pend, s.size ≤ 16384
  gs : GSmall B.groups
  u : usedN B.groups ≤ 1000000
set_option maxHeartbeats 8000000 in
theorem bcommit_b (bk : Nat) (B : Bk) (hB : BFit B) :
    MetB bk Try.prog 23 #[.pointer (some ⟨bk, 0, none⟩)] (.tuple #[.int .i64 (bCommit B).1.1, .int .i64 (bCommit B).1.2]) (BH bk B) (BH bk (bCommit B).2) := by
  rintro w F hBH
  have HBH := Lib.hid hBH
  obtain ⟨gv, pv, G, hG, hS⟩ := hBH
  obtain ⟨r, g, f, p, groups, pend⟩ := B
  obtain ⟨fr, fg, ff, fp, fn, fl, fs, fgs, fu⟩ := hB
  dsimp only at fr fg ff fp fn fl fs fgs fu hG hS
  subst hG
  obtain ⟨hr1, hr2, hr3⟩ := hS.rows
  obtain ⟨go, gc, rfl⟩ := hr1.form
  obtain ⟨po, pc, rfl⟩ := hr3.form
  rw [scells_length] at hS hr3
  rw [List.length_map] at hS hr1 fn
  have hbx := hS.box
  have hlt := lt_of_heap hbx
  have HSec : Hid (∀ n : KW w, Calls Try.prog 48 #[.slice po pend.length pc] (Wk w n) fun e w' => e = .returned (.int .i64 (secsN pend)) ∧ ∃ m, w' = Wk w m) := fun n =>
    (sectors_c (Wk w n) _ pend (hr3.keep0 n.k) fl fs).mono fun e w' h => ⟨h.1, n, h.2⟩
  have HUse : Hid (∀ n : KW w, Calls Try.prog 49 #[.pointer (some ⟨bk, 0, none⟩)] (Wk w n) fun e w' => e = .returned (.int .i64 (usedN (G.map (·.2)))) ∧ ∃ m, w' = Wk w m) := fun n =>
    (used_c (Wk w n) bk r g f p _ _ G (n.k.heap hbx (by simp)) (hr1.keep0 n.k) (fun x hx => (hr2 x hx).keep0 n.k) fgs (by omega) (by omega)).mono fun e w' h => ⟨h.1, n, h.2⟩
  have hc : ∀ n : KW w, ∀ i, (Wk w n).cell? ⟨bk, i, none⟩ = (bcells r g f p (.slice go G.length gc) (.slice po pend.length pc))[i]? := fun n => cell_of (n.k.heap hbx (by simp))
  simp only [bcells] at hc
  have hc0 := fun n => hc n 0
  have hc5 := fun n => hc n 5
  simp only [List.getElem?_toArray, List.getElem?_cons_zero, List.getElem?_cons_succ] at hc0 hc5
  have hneed : secsN pend ≤ 40000 := by
    have := sumS_le pend fs
    unfold secsN; omega
  have HS := Lib.hid hS
  have HR1 := Lib.hid hr1
  have HR2 := Lib.hid hr2
  have HR3 := Lib.hid hr3
  have Hbx := Lib.hid hbx
  clear hS hr1 hr2 hr3 hbx fs fgs hc
  have hcm : bCommit ⟨r, g, f, p, G.map (·.2), pend⟩ = if (r : Int) - usedN (G.map (·.2)) < secsN pend then (((0 : Int), (19 : Int)), (⟨r, g, f, p, G.map (·.2), pend⟩ : Bk)) else ((((f + (G.map (·.2)).length : Nat) : Int), (0 : Int)), (⟨r, g + 1, f, p, G.map (·.2) ++ [pend], []⟩ : Bk)) := rfl
  rw [List.length_map] at hcm
  generalize hus : usedN (G.map (·.2)) = us at *
  have Hcm := Lib.hid hcm
  clear hcm hus
  go_enter Try.func23, Try.ntmps23
  go_wp2_with fail
  refine wp_region_keep (by kernel_rfl) (by kernel_rfl) ?_
  repeat (first
    | go_big_quiet_skip
    | (go_big_quiet_want; go_big_quiet_op; first | go_big_quiet_on | go_big_quiet_call (first
      | (go_at_call 48; exact HSec.out _)
      | (go_at_call 49; exact HUse.out _))))
  refine wpQuiet_nil ?_
  rintro w1 ⟨⟨_, hk1⟩, rfl⟩
  have hb1 := hk1.heap Hbx.out (by simp)
  have Hb1 := Lib.hid hb1
  have Hk1 := Lib.hid hk1
  have hlt1 := lt_of_heap hb1
  clear hc0 hc5 HSec HUse hk1
  by_cases hno : (r : Int) - us < secsN pend
  · have hst : bCommit ⟨r, g, f, p, G.map (·.2), pend⟩ = ((0, 19), ⟨r, g, f, p, G.map (·.2), pend⟩) := by rw [Hcm.out, if_pos hno]
    have Hst := Lib.hid hst
    clear hst
    go_wp2_with fail
    go_ret2
    rw [Hst.out]
    exact ⟨rfl, ToB.of_keep (bh_stab _ _) HBH.out Hk1.out⟩
  · have hle : (secsN pend : Int) ≤ (r : Int) - us := by omega
    have hst : bCommit ⟨r, g, f, p, G.map (·.2), pend⟩ = ((((f + G.length : Nat) : Int), (0 : Int)), (⟨r, g + 1, f, p, G.map (·.2) ++ [pend], []⟩ : Bk)) := by rw [Hcm.out, if_neg hno]
    have Hst := Lib.hid hst
    clear hst hno
    have hcb := cell_of hb1
    have hfb := frozen_of hb1
    simp only [bcells] at hcb
    go_wp2_with fail
    have x4 := hcb 4
    have x5 := hcb 5
    simp only [List.getElem?_toArray, List.getElem?_cons_zero, List.getElem?_cons_succ] at x4 x5
    obtain ⟨i0, hi, hz0, hz1, hz2⟩ := info_parts infoSS
    have Hi := Lib.hid (And.intro hi (And.intro hz0 (And.intro hz1 hz2)))
    clear hi hz0 hz1 hz2 hcb hfb hb1
    have HSk : Hid (∀ W, Keep [] w1 W → (W.cell? ⟨bk, 4, none⟩ = some (.slice go G.length gc) ∧ W.cell? ⟨bk, 5, none⟩ = some (.slice po pend.length pc))) := fun W hk => by
      have := hk.heap Hb1.out (by simp)
      exact ⟨by rw [cell_of this]; rfl, by rw [cell_of this]; rfl⟩
    refine wp_region_heldT (S := fun W => W.cell? ⟨bk, 4, none⟩ = some (.slice go G.length gc) ∧ W.cell? ⟨bk, 5, none⟩ = some (.slice po pend.length pc)) 13 (by kernel_rfl) (by kernel_rfl) (fun _ _ d _ _ h => by cases d <;> exact h) ?_
    have hS0 : w1.drew.cell? ⟨bk, 4, none⟩ = some (.slice go G.length gc) ∧ w1.drew.cell? ⟨bk, 5, none⟩ = some (.slice po pend.length pc) := ⟨x4, x5⟩
    refine' heldT_val (v := _) 0 (by rfl) (by decide) (by kernel_rfl) (by kernel_rfl) (by rfl) hS0 (fun w hw => ?hrun0) (fun K hK => ?hnext0)
    case hrun0 => (obtain ⟨s5, s6⟩ := hw; go_simp; try rfl)
    rotate_left 0
    go_simp
    refine hK _ ?_
    clear hK K
    refine' heldT_val (v := _) 2 (by rfl) (by decide) (by kernel_rfl) (by kernel_rfl) (by rfl) hS0 (fun w hw => ?hrun2) (fun K hK => ?hnext2)
    case hrun2 => (obtain ⟨s5, s6⟩ := hw; go_simp; try rfl)
    rotate_left 0
    go_simp
    refine hK _ ?_
    clear hK K
    refine' heldT_val (v := _) 3 (by rfl) (by decide) (by kernel_rfl) (by kernel_rfl) (by rfl) hS0 (fun w hw => ?hrun3) (fun K hK => ?hnext3)
    case hrun3 => (obtain ⟨s5, s6⟩ := hw; go_simp; try rfl)
    rotate_left 0
    go_simp
    refine hK _ ?_
    clear hK K
    refine' heldT_val (v := _) 4 (by rfl) (by decide) (by kernel_rfl) (by kernel_rfl) (by rfl) hS0 (fun w hw => ?hrun4) (fun K hK => ?hnext4)
    case hrun4 => (obtain ⟨s5, s6⟩ := hw; go_simp; try rfl)
    rotate_left 0
    go_simp
    refine hK _ ?_
    clear hK K
    refine' heldT_val (v := _) 5 (by rfl) (by decide) (by kernel_rfl) (by kernel_rfl) (by rfl) hS0 (fun w hw => ?hrun5) (fun K hK => ?hnext5)
    case hrun5 => (obtain ⟨s5, s6⟩ := hw; go_simp; try rfl)
    rotate_left 0
    go_simp
    refine hK _ ?_
    clear hK K
    refine' heldT_val (v := _) 7 (by rfl) (by decide) (by kernel_rfl) (by kernel_rfl) (by rfl) hS0 (fun w hw => ?hrun7) (fun K hK => ?hnext7)
    case hrun7 => (obtain ⟨s5, s6⟩ := hw; go_simp; try rfl)
    rotate_left 0
    go_simp
    refine hK _ ?_
    clear hK K
    refine' heldT_val (v := _) 8 (by rfl) (by decide) (by kernel_rfl) (by kernel_rfl) (by rfl) hS0 (fun w hw => ?hrun8) (fun K hK => ?hnext8)
    case hrun8 => (obtain ⟨s5, s6⟩ := hw; go_simp; try rfl)
    rotate_left 0
    go_simp
    refine hK _ ?_
    clear hK K
    refine' heldT_val (v := _) 9 (by rfl) (by decide) (by kernel_rfl) (by kernel_rfl) (by rfl) hS0 (fun w hw => ?hrun9) (fun K hK => ?hnext9)
    case hrun9 => (obtain ⟨s5, s6⟩ := hw; go_simp; try rfl)
    rotate_left 0
    go_simp
    refine hK _ ?_
    clear hK K
    refine' heldT_val (v := _) 10 (by rfl) (by decide) (by kernel_rfl) (by kernel_rfl) (by rfl) hS0 (fun w hw => ?hrun10) (fun K hK => ?hnext10)
    case hrun10 => (obtain ⟨s5, s6⟩ := hw; go_simp; try rfl)
    rotate_left 0
    go_simp
    refine hK _ ?_
    clear hK K
    have hkd : Keep [] w1 w1.drew := Keep.drew _ _
    have HV1 : Hid (∀ u ∈ G.map (·.1), u.oneCell' = true) := vals_one fun x hx => by
      obtain ⟨ao, c, e⟩ := (HR2.out x hx).form
      exact ⟨_, _, _, e⟩
    have hsd : w1.drew.heap.size = w1.heap.size := rfl
    refine heldT_two 1 11 (by kernel_rfl) (by decide) (by decide) (by rfl) (by rfl) (by rfl) (by rfl) (fun K hK => ?_) (fun K hK => ?_)
    · skip
      go_simp
      refine hK _ _ (HSk.out _ (hkd.allocPast (.cells #[] 31))) ?_
      clear hK K
      have hoA := made0 w1.drew 31 1
      have hkA := hkd.allocPast (.cells #[] 31)
      have hsA : w1.drew.heap.size < (w1.drew.alloc (.cells #[] 31)).heap.size := by simp
      change heldT _ _ _ _ _ _ _ _ _ _ (w1.drew.alloc (.cells #[] 31))
      generalize w1.drew.alloc (.cells #[] 31) = wA at *
      refine heldT_two 6 11 (by kernel_rfl) (by decide) (by decide) (by rfl) (by rfl) (by rfl) (by rfl) (fun K hK => ?_) (fun K hK => ?_)
      · skip
        refine wp_append_row wA _ _ 41 (by rfl) w1.heap.size 31 i0 _ 24 Try.underlying41 Hi.out.1 Hi.out.2.1 Hi.out.2.2.1 Hi.out.2.2.2 rfl _ 0 [] (by rfl) (hoA) _ (G.map (·.1)) (by rfl) (HR1.out.keep0 (Hk1.out.trans0 hkA)) HV1.out (by rw [List.length_map]; unfold maxLen; omega) (by rw [List.length_map]; omega) hkA.size ?_
        intro va wa hoa hga
        rw [List.nil_append, Nat.zero_add, List.length_map] at hoa
        obtain ⟨vo, vc, rfl⟩ := own_form (ownsRow_base0 hoa)
        have hkB : Keep [] w1 wa := hkA.grownPast hga (fun k hk => (World.ownsRow.lt (hoA) k hk).1)
        refine hK _ _ (HSk.out _ hkB) ?_
        clear hK K
        refine heldT_one 11 (by kernel_rfl) (by decide) (by rfl) (by rfl) (fun K hK => ?_)
        go_simp
        refine hK _ _ (HSk.out _ (hkB.allocPast (.cells #[.slice po pend.length pc] 31))) ?_
        clear hK K
        have hcC := one_news wa (.slice po pend.length pc) 31
        have hkC := hkB.allocPast (.cells #[.slice po pend.length pc] 31)
        have hsC : wa.heap.size < (wa.alloc (.cells #[.slice po pend.length pc] 31)).heap.size := by simp
        change heldT _ _ _ _ _ _ _ _ _ _ (wa.alloc (.cells #[.slice po pend.length pc] 31))
        refine heldT_one 12 (by kernel_rfl) (by decide) (by rfl) (by rfl) (fun K hK => ?_)
        refine wp_append_own _ _ _ 41 (by rfl) w1.heap.size 31 i0 _ 1 24 Try.underlying41 Hi.out.1 Hi.out.2.1 Hi.out.2.2.1 Hi.out.2.2.2 rfl (by decide) _ _ _ (by rfl) (hoa.alloc (.cells #[.slice po pend.length pc] 31)) _ 1 1 [.slice po pend.length pc] (by rfl) rfl (hcC) slice_one (by unfold maxLen; omega) (by omega) hkC.size ?_
        intro vb wb hob hgb _
        obtain ⟨uo, uc, rfl⟩ := own_form (ownsRow_base0 hob)
        have hkb : Keep [] w1 wb := hkC.grownPast hgb (fun k hk => (World.ownsRow.lt (hoa.alloc (.cells #[.slice po pend.length pc] 31)) k hk).1)
        refine hK _ _ (HSk.out _ hkb) ?_
        clear hK K
        refine ⟨by kernel_rfl, ?_⟩
        have hbb := hkb.heap Hb1.out (by simp)
        have hc9 := cell_of hbb
        have hf9 := frozen_of hbb
        simp only [bcells] at hc9
        rw [show (G.map (·.1)) ++ [Value.slice po pend.length pc] = (G ++ [((.slice po pend.length pc : Value), pend)]).map (·.1) by simp] at hob
        have Hob := Lib.hid hob
        have Hkb := Lib.hid hkb
        have Hbb := Lib.hid hbb
        clear hob hgb hkb hbb
        have hS0 := trivial
        simp only [List.drop_succ_cons, List.drop_zero]
        go_wp2_with fail
        go_big_quiet (fail)
        go_wp2_with fail
        have hval : ((f : Int) + ((G.length : Int) + 1) - 1) = ((f + G.length : Nat) : Int) := by omega
        have hval2 : ((g : Int) + 1) = ((g + 1 : Nat) : Int) := by omega
        rw [hval, hval2]
        go_ret2
        rw [Hst.out]
        refine ⟨rfl, (HS.out.put (Hk1.out.trans0 Hkb.out) (r' := r) (g' := g + 1) (f' := f) (p' := p) (G' := G ++ [(.slice po pend.length pc, pend)]) (l' := []) (gv' := .slice uo (G.length + 1) uc) (pv' := .slice none 0 0) ⟨⟨RowR.of_own (ownsRow_base0 Hob.out), CapR.of_own Hob.out⟩, fun x hx => ?_, .inl ⟨rfl, rfl⟩, rfl⟩ (fun x hx => ?_) (((Keep.setCell [bk] _ _ _ _ (by simp)).trans (Keep.setCell [bk] _ _ _ _ (by simp)) (fun x hx => .inl hx)).trans (Keep.setCell [bk] _ _ _ _ (by simp)) (fun x hx => .inl hx) |>.trans (Keep.drewN [] _ _) (by simp)) ?_).imp fun w F h => ⟨_, _, _, by simp, h⟩⟩
        · rcases List.mem_append.1 hx with h | h
          · exact (HR2.out x h).keep0 (Hk1.out.trans0 Hkb.out)
          · simp at h; subst h; exact HR3.out.keep0 (Hk1.out.trans0 Hkb.out)
        · simp only [List.flatMap_append, List.flatMap_cons, List.flatMap_nil, List.append_nil, rowF] at hx
          rcases List.mem_append.1 hx with h | h
          · right
            have := row_ge Hob.out x h
            have := Hk1.out.size
            omega
          · left
            simp only [List.mem_append] at h ⊢
            rcases h with h | h
            · exact .inr (.inl h)
            · exact .inr (.inr h)
        · have h4 := set_same Hbb.out 4 (Value.slice uo (G.length + 1) uc)
          have h5 := set_same h4 5 (Value.slice none 0 0)
          exact set_same h5 1 (Value.int .i64 ((g + 1 : Nat) : Int))
      · skip
        go_simp
        refine hK _ _ (HSk.out _ (hkA.allocPast (.cells #[.slice po pend.length pc] 31))) ?_
        clear hK K
        have hcC := one_news wA (.slice po pend.length pc) 31
        have hkC := hkA.allocPast (.cells #[.slice po pend.length pc] 31)
        have hsC : wA.heap.size < (wA.alloc (.cells #[.slice po pend.length pc] 31)).heap.size := by simp
        change heldT _ _ _ _ _ _ _ _ _ _ (wA.alloc (.cells #[.slice po pend.length pc] 31))
        have hoC := hoA.alloc (.cells #[.slice po pend.length pc] 31)
        generalize wA.alloc (.cells #[.slice po pend.length pc] 31) = wC at *
        refine heldT_one 6 (by kernel_rfl) (by decide) (by rfl) (by rfl) (fun K hK => ?_)
        refine wp_append_row wC _ _ 41 (by rfl) w1.heap.size 31 i0 _ 24 Try.underlying41 Hi.out.1 Hi.out.2.1 Hi.out.2.2.1 Hi.out.2.2.2 rfl _ 0 [] (by rfl) (hoC) _ (G.map (·.1)) (by rfl) (HR1.out.keep0 (Hk1.out.trans0 hkC)) HV1.out (by rw [List.length_map]; unfold maxLen; omega) (by rw [List.length_map]; omega) hkC.size ?_
        intro va wa hoa hga
        rw [List.nil_append, Nat.zero_add, List.length_map] at hoa
        obtain ⟨vo, vc, rfl⟩ := own_form (ownsRow_base0 hoa)
        have hkD : Keep [] w1 wa := hkC.grownPast hga (fun k hk => (World.ownsRow.lt (hoC) k hk).1)
        have hcD : ∀ (j : Nat) (u : Value), [Value.slice po pend.length pc][j]? = some u → wa.cell? ((⟨wA.heap.size, 0, none⟩ : Addr).add j) = some u := fun j u hj => by
          have := hcC j u hj
          rw [Addr.add_lit] at this ⊢
          exact World.grownBy.cell hga this (by simp [Value.ownBlock]; omega)
        refine hK _ _ (HSk.out _ hkD) ?_
        clear hK K
        refine heldT_one 12 (by kernel_rfl) (by decide) (by rfl) (by rfl) (fun K hK => ?_)
        refine wp_append_own wa _ _ 41 (by rfl) w1.heap.size 31 i0 _ 1 24 Try.underlying41 Hi.out.1 Hi.out.2.1 Hi.out.2.2.1 Hi.out.2.2.2 rfl (by decide) _ _ _ (by rfl) (hoa) _ 1 1 [.slice po pend.length pc] (by rfl) rfl (hcD) slice_one (by unfold maxLen; omega) (by omega) hkD.size ?_
        intro vb wb hob hgb _
        obtain ⟨uo, uc, rfl⟩ := own_form (ownsRow_base0 hob)
        have hkb : Keep [] w1 wb := hkD.grownPast hgb (fun k hk => (World.ownsRow.lt (hoa) k hk).1)
        refine hK _ _ (HSk.out _ hkb) ?_
        clear hK K
        refine ⟨by kernel_rfl, ?_⟩
        have hbb := hkb.heap Hb1.out (by simp)
        have hc9 := cell_of hbb
        have hf9 := frozen_of hbb
        simp only [bcells] at hc9
        rw [show (G.map (·.1)) ++ [Value.slice po pend.length pc] = (G ++ [((.slice po pend.length pc : Value), pend)]).map (·.1) by simp] at hob
        have Hob := Lib.hid hob
        have Hkb := Lib.hid hkb
        have Hbb := Lib.hid hbb
        clear hob hgb hkb hbb
        have hS0 := trivial
        simp only [List.drop_succ_cons, List.drop_zero]
        go_wp2_with fail
        go_big_quiet (fail)
        go_wp2_with fail
        have hval : ((f : Int) + ((G.length : Int) + 1) - 1) = ((f + G.length : Nat) : Int) := by omega
        have hval2 : ((g : Int) + 1) = ((g + 1 : Nat) : Int) := by omega
        rw [hval, hval2]
        go_ret2
        rw [Hst.out]
        refine ⟨rfl, (HS.out.put (Hk1.out.trans0 Hkb.out) (r' := r) (g' := g + 1) (f' := f) (p' := p) (G' := G ++ [(.slice po pend.length pc, pend)]) (l' := []) (gv' := .slice uo (G.length + 1) uc) (pv' := .slice none 0 0) ⟨⟨RowR.of_own (ownsRow_base0 Hob.out), CapR.of_own Hob.out⟩, fun x hx => ?_, .inl ⟨rfl, rfl⟩, rfl⟩ (fun x hx => ?_) (((Keep.setCell [bk] _ _ _ _ (by simp)).trans (Keep.setCell [bk] _ _ _ _ (by simp)) (fun x hx => .inl hx)).trans (Keep.setCell [bk] _ _ _ _ (by simp)) (fun x hx => .inl hx) |>.trans (Keep.drewN [] _ _) (by simp)) ?_).imp fun w F h => ⟨_, _, _, by simp, h⟩⟩
        · rcases List.mem_append.1 hx with h | h
          · exact (HR2.out x h).keep0 (Hk1.out.trans0 Hkb.out)
          · simp at h; subst h; exact HR3.out.keep0 (Hk1.out.trans0 Hkb.out)
        · simp only [List.flatMap_append, List.flatMap_cons, List.flatMap_nil, List.append_nil, rowF] at hx
          rcases List.mem_append.1 hx with h | h
          · right
            have := row_ge Hob.out x h
            have := Hk1.out.size
            omega
          · left
            simp only [List.mem_append] at h ⊢
            rcases h with h | h
            · exact .inr (.inl h)
            · exact .inr (.inr h)
        · have h4 := set_same Hbb.out 4 (Value.slice uo (G.length + 1) uc)
          have h5 := set_same h4 5 (Value.slice none 0 0)
          exact set_same h5 1 (Value.int .i64 ((g + 1 : Nat) : Int))
    · skip
      go_simp
      refine hK _ _ (HSk.out _ (hkd.allocPast (.cells #[.slice po pend.length pc] 31))) ?_
      clear hK K
      have hcC := one_news w1.drew (.slice po pend.length pc) 31
      have hkC := hkd.allocPast (.cells #[.slice po pend.length pc] 31)
      have hsC : w1.drew.heap.size < (w1.drew.alloc (.cells #[.slice po pend.length pc] 31)).heap.size := by simp
      change heldT _ _ _ _ _ _ _ _ _ _ (w1.drew.alloc (.cells #[.slice po pend.length pc] 31))
      generalize w1.drew.alloc (.cells #[.slice po pend.length pc] 31) = wC at *
      refine heldT_one 1 (by kernel_rfl) (by decide) (by rfl) (by rfl) (fun K hK => ?_)
      have hcA : ∀ (j : Nat) (u : Value), [Value.slice po pend.length pc][j]? = some u → (wC.alloc (.cells #[] 31)).cell? ((⟨w1.drew.heap.size, 0, none⟩ : Addr).add j) = some u := fun j u hj => by
        have := hcC j u hj
        rw [Addr.add_lit] at this ⊢
        exact (World.cell?_of_block ((Keep.alloc [] wC _).block _ hsC (by simp))).trans this
      go_simp
      refine hK _ _ (HSk.out _ (hkC.allocPast (.cells #[] 31))) ?_
      clear hK K
      have hoA := made0 wC 31 1
      have hkA := hkC.allocPast (.cells #[] 31)
      have hsA : wC.heap.size < (wC.alloc (.cells #[] 31)).heap.size := by simp
      change heldT _ _ _ _ _ _ _ _ _ _ (wC.alloc (.cells #[] 31))
      generalize wC.alloc (.cells #[] 31) = wA at *
      have hoE := Joins.ownsRow_le hoA hkC.size
      refine heldT_one 6 (by kernel_rfl) (by decide) (by rfl) (by rfl) (fun K hK => ?_)
      refine wp_append_row wA _ _ 41 (by rfl) w1.heap.size 31 i0 _ 24 Try.underlying41 Hi.out.1 Hi.out.2.1 Hi.out.2.2.1 Hi.out.2.2.2 rfl _ 0 [] (by rfl) (hoE) _ (G.map (·.1)) (by rfl) (HR1.out.keep0 (Hk1.out.trans0 hkA)) HV1.out (by rw [List.length_map]; unfold maxLen; omega) (by rw [List.length_map]; omega) hkA.size ?_
      intro va wa hoa hga
      rw [List.nil_append, Nat.zero_add, List.length_map] at hoa
      obtain ⟨vo, vc, rfl⟩ := own_form (ownsRow_base0 hoa)
      have hkD : Keep [] w1 wa := hkA.grownPast hga (fun k hk => (World.ownsRow.lt (hoE) k hk).1)
      have hcD : ∀ (j : Nat) (u : Value), [Value.slice po pend.length pc][j]? = some u → wa.cell? ((⟨w1.drew.heap.size, 0, none⟩ : Addr).add j) = some u := fun j u hj => by
        have := hcA j u hj
        rw [Addr.add_lit] at this ⊢
        exact World.grownBy.cell hga this (by simp only [Value.ownBlock]; intro e; injection e with e; have e : w1.drew.heap.size = wC.heap.size := e; omega)
      refine hK _ _ (HSk.out _ hkD) ?_
      clear hK K
      refine heldT_one 12 (by kernel_rfl) (by decide) (by rfl) (by rfl) (fun K hK => ?_)
      refine wp_append_own wa _ _ 41 (by rfl) w1.heap.size 31 i0 _ 1 24 Try.underlying41 Hi.out.1 Hi.out.2.1 Hi.out.2.2.1 Hi.out.2.2.2 rfl (by decide) _ _ _ (by rfl) (hoa) _ 1 1 [.slice po pend.length pc] (by rfl) rfl (hcD) slice_one (by unfold maxLen; omega) (by omega) hkD.size ?_
      intro vb wb hob hgb _
      obtain ⟨uo, uc, rfl⟩ := own_form (ownsRow_base0 hob)
      have hkb : Keep [] w1 wb := hkD.grownPast hgb (fun k hk => (World.ownsRow.lt (hoa) k hk).1)
      refine hK _ _ (HSk.out _ hkb) ?_
      clear hK K
      refine ⟨by kernel_rfl, ?_⟩
      have hbb := hkb.heap Hb1.out (by simp)
      have hc9 := cell_of hbb
      have hf9 := frozen_of hbb
      simp only [bcells] at hc9
      rw [show (G.map (·.1)) ++ [Value.slice po pend.length pc] = (G ++ [((.slice po pend.length pc : Value), pend)]).map (·.1) by simp] at hob
      have Hob := Lib.hid hob
      have Hkb := Lib.hid hkb
      have Hbb := Lib.hid hbb
      clear hob hgb hkb hbb
      have hS0 := trivial
      simp only [List.drop_succ_cons, List.drop_zero]
      go_wp2_with fail
      go_big_quiet (fail)
      go_wp2_with fail
      have hval : ((f : Int) + ((G.length : Int) + 1) - 1) = ((f + G.length : Nat) : Int) := by omega
      have hval2 : ((g : Int) + 1) = ((g + 1 : Nat) : Int) := by omega
      rw [hval, hval2]
      go_ret2
      rw [Hst.out]
      refine ⟨rfl, (HS.out.put (Hk1.out.trans0 Hkb.out) (r' := r) (g' := g + 1) (f' := f) (p' := p) (G' := G ++ [(.slice po pend.length pc, pend)]) (l' := []) (gv' := .slice uo (G.length + 1) uc) (pv' := .slice none 0 0) ⟨⟨RowR.of_own (ownsRow_base0 Hob.out), CapR.of_own Hob.out⟩, fun x hx => ?_, .inl ⟨rfl, rfl⟩, rfl⟩ (fun x hx => ?_) (((Keep.setCell [bk] _ _ _ _ (by simp)).trans (Keep.setCell [bk] _ _ _ _ (by simp)) (fun x hx => .inl hx)).trans (Keep.setCell [bk] _ _ _ _ (by simp)) (fun x hx => .inl hx) |>.trans (Keep.drewN [] _ _) (by simp)) ?_).imp fun w F h => ⟨_, _, _, by simp, h⟩⟩
      · rcases List.mem_append.1 hx with h | h
        · exact (HR2.out x h).keep0 (Hk1.out.trans0 Hkb.out)
        · simp at h; subst h; exact HR3.out.keep0 (Hk1.out.trans0 Hkb.out)
      · simp only [List.flatMap_append, List.flatMap_cons, List.flatMap_nil, List.append_nil, rowF] at hx
        rcases List.mem_append.1 hx with h | h
        · right
          have := row_ge Hob.out x h
          have := Hk1.out.size
          omega
        · left
          simp only [List.mem_append] at h ⊢
          rcases h with h | h
          · exact .inr (.inl h)
          · exact .inr (.inr h)
      · have h4 := set_same Hbb.out 4 (Value.slice uo (G.length + 1) uc)
        have h5 := set_same h4 5 (Value.slice none 0 0)
        exact set_same h5 1 (Value.int .i64 ((g + 1 : Nat) : Int))
theorem bcommit_m (bk : Nat) (B : Bk) (hB : BFit B) :
    Met Try.prog 23 #[.pointer (some ⟨bk, 0, none⟩)] (.tuple #[.int .i64 (bCommit B).1.1, .int .i64 (bCommit B).1.2]) (BH bk B) (BH bk (bCommit B).2) :=
  (bcommit_b bk B hB).met bh_mem
end Go.Proofs.Ytgmggmpkbfljfaa
