/- The model of a journal in memory: append, used, commit. -/
import Derived.Test.YtgmggmpkbfljfaaCm
import Derived.Laws.AppendOwnNone
set_option linter.unusedVariables false
set_option linter.unusedSimpArgs false
set_option maxRecDepth 100000
namespace Go.Proofs.Ytgmggmpkbfljfaa
open Go.RowKit
theorem infoSS : (Try.prog.info? 31).map (fun i => (i.zero, i.size, i.bytes)) = some (some (.slice none 0 0), 1, 24) := by kernel_rfl
theorem ownsRow_base0 {w : World} {base : Nat} {e : TypeId} {size : Nat} {v : Value} {n : Nat} {xs : List Value} (h : w.ownsRow base e size v n xs) : w.ownsRow 0 e size v n xs := by
  refine ⟨h.1, ?_⟩
  rcases h.2 with h | ⟨g, cap, cur, hv, hb, rest⟩
  · exact .inl h
  · exact .inr ⟨g, cap, cur, hv, Nat.zero_le _, rest⟩
theorem made0 (w : World) (e : TypeId) (size : Nat) : (w.alloc (.cells #[] e)).ownsRow w.heap.size e size (.slice (some ⟨w.heap.size, 0, none⟩) 0 0) 0 [] :=
  World.ownsRow_made w #[] 0 (Nat.le_refl _) (Nat.zero_le _) (by simp)
section
variable {P : Program} (w : World)
theorem run_append_row (base : Nat) (t ty e : TypeId) (i : TypeInfo) (z : Value) (bytes : Nat) (ht : P.underlying t = some (.slice e)) (hi : P.info? e = some i) (hz : i.zero = some z)
    (hsize : i.size = 1) (hby : i.bytes = bytes) (hzs : z.cells.size = 1)
    (v : Value) (n : Nat) (xs : List Value) (hown : w.ownsRow base e 1 v n xs) (x : Value) (news : List Value) (hx : RowR w x news) (h1 : ∀ u ∈ news, u.oneCell' = true)
    (h63 : n + news.length ≤ maxLen) (hbytes : (n + news.length) * bytes ≤ 140737488355328) (hbase : base ≤ w.heap.size) :
    ∃ v' w', (Builtin.append_ #[t, t] ty #[v, x]).run P w = .ok v' w' ∧ w'.ownsRow base e 1 v' (n + news.length) (xs ++ news) ∧ w.grownBy w' v.ownBlock := by
  rcases hx with ⟨rfl, rfl⟩ | ⟨g, o, c, rfl, hg, hc⟩
  · exact ⟨v, w, run_append_owned_none (P := P) (w := w) base t ty e i 1 ht hi v n xs hown, by simpa using hown, ⟨rfl, rfl, rfl, Nat.le_refl _, fun _ _ _ => rfl⟩⟩
  · obtain ⟨v', w', hr, ho, hg', _⟩ := run_append_own (P := P) w base t ty e i z 1 bytes ht hi hz hsize hby hzs (by decide) v n xs hown ⟨g, o, none⟩ news.length c news (by simp) (fun j u hj => by
      rw [Addr.add_lit]; exact hc j u hj) h1 h63 hbytes hbase
    exact ⟨v', w', hr, ho, hg'⟩
theorem wp_append_row {o : Oper} {a : Act} {K : Act → World → Prop} {Q : Exit → Act → World → Prop} (s y : Operand) (t : TypeId)
    (ho : o.op = .call { callee := .builtin .append, args := #[s, y], argTypes := #[t, t] })
    (base : Nat) (e : TypeId) (i : TypeInfo) (z : Value) (bytes : Nat) (ht : P.underlying t = some (.slice e)) (hi : P.info? e = some i) (hz : i.zero = some z)
    (hsize : i.size = 1) (hby : i.bytes = bytes) (hzs : z.cells.size = 1)
    (v : Value) (n : Nat) (xs : List Value) (hs : a.eval s = v) (hown : w.ownsRow base e 1 v n xs) (x : Value) (news : List Value) (hy : a.eval y = x) (hx : RowR w x news) (h1 : ∀ u ∈ news, u.oneCell' = true)
    (h63 : n + news.length ≤ maxLen) (hbytes : (n + news.length) * bytes ≤ 140737488355328) (hbase : base ≤ w.heap.size)
    (h : ∀ v' w', w'.ownsRow base e 1 v' (n + news.length) (xs ++ news) → w.grownBy w' v.ownBlock → K (a.put o.dst v') w') : o.wp P a w K Q := by
  obtain ⟨v', w', hr, h2, h3⟩ := run_append_row (P := P) w base t o.type e i z bytes ht hi hz hsize hby hzs v n xs hown x news hx h1 h63 hbytes hbase
  unfold Oper.wp execOp
  simp only [ho, resolve, invoke, builtin, Sem.run_bind, Sem.run_pure, Result.andThen_ok, List.map_toArray, List.map_cons, List.map_nil, hs, hy, hr]
  exact h v' w' h2 h3
theorem wpList_append_row {ops : Array Oper} {rest : List Oper} {o : Oper} {a : Act} {Q : Exit → Act → World → Prop} (hgd : o.guard = none) (s y : Operand) (t : TypeId)
    (ho : o.op = .call { callee := .builtin .append, args := #[s, y], argTypes := #[t, t] })
    (base : Nat) (e : TypeId) (i : TypeInfo) (z : Value) (bytes : Nat) (ht : P.underlying t = some (.slice e)) (hi : P.info? e = some i) (hz : i.zero = some z)
    (hsize : i.size = 1) (hby : i.bytes = bytes) (hzs : z.cells.size = 1)
    (v : Value) (n : Nat) (xs : List Value) (hs : a.eval s = v) (hown : w.ownsRow base e 1 v n xs) (x : Value) (news : List Value) (hy : a.eval y = x) (hx : RowR w x news) (h1 : ∀ u ∈ news, u.oneCell' = true)
    (h63 : n + news.length ≤ maxLen) (hbytes : (n + news.length) * bytes ≤ 140737488355328) (hbase : base ≤ w.heap.size)
    (h : ∀ v' w', w'.ownsRow base e 1 v' (n + news.length) (xs ++ news) → w.grownBy w' v.ownBlock → wpList P ops Q rest (a.put o.dst v') w') : wpList P ops Q (o :: rest) a w :=
  wpList_plain hgd fun _ hK => wp_append_row w s y t ho base e i z bytes ht hi hz hsize hby hzs v n xs hs hown x news hy hx h1 h63 hbytes hbase fun v' w' h2 h3 => hK _ _ (h v' w' h2 h3)
end
theorem scells_one (l : List ByteArray) : ∀ u ∈ scells l, u.oneCell' = true := by
  intro u hu
  obtain ⟨x, _, hx⟩ := List.mem_map.1 hu
  rw [← hx]; rfl
/-! ### the book -/
structure Bk where
  ring : Nat
  gen : Nat
  first : Nat
  place : Nat
  groups : List (List ByteArray)
  pend : List ByteArray
def bcells (r g f p : Nat) (gv pv : Value) : Array Value := #[.int .i64 r, .int .i64 g, .int .i64 f, .int .i64 p, gv, pv]
/-- What a book leans on and nobody turns. -/
def CapR (v : Value) : Prop := ∀ a n c, v = .slice a n c → n ≤ c
theorem CapR.of_own {w : World} {base : Nat} {e : TypeId} {size n : Nat} {v : Value} {xs : List Value} (h : w.ownsRow base e size v n xs) : CapR v := by
  intro a m c e
  rcases h.2 with ⟨hv, h0⟩ | ⟨g, cap, cur, hv, _, _, hn, _⟩
  · rw [hv] at e; injection e with e1 e2 e3; omega
  · rw [hv] at e; injection e with e1 e2 e3; omega
theorem CapR.none : CapR (.slice .none 0 0) := by intro a m c e; injection e with e1 e2 e3; omega
def BkR (gv pv : Value) (G : GL) (l : List ByteArray) : HP := fun w F =>
  (RowR w gv (G.map (·.1)) ∧ CapR gv) ∧ (∀ x ∈ G, RowR w x.1 (scells x.2)) ∧ RowR w pv (scells l) ∧ F = rowF gv ++ (G.flatMap (fun x => rowF x.1) ++ rowF pv)
theorem bkR_stab (gv pv : Value) (G : GL) (l : List ByteArray) : Stab (BkR gv pv G l) where
  keep := by
    rintro w w' F E ⟨h1, h2, h3, rfl⟩ hk hd
    refine ⟨⟨h1.1.keep hk (fun y hy => hd y (by simp [hy])), h1.2⟩, fun x hx => (h2 x hx).keep hk (fun y hy => hd y ?_), h3.keep hk (fun y hy => hd y (by simp [hy])), rfl⟩
    exact List.mem_append_right _ (List.mem_append_left _ (List.mem_flatMap.2 ⟨x, hx, hy⟩))
  lt := by
    rintro w F ⟨h1, h2, h3, rfl⟩ y hy
    rcases List.mem_append.1 hy with hy | hy
    · exact h1.1.lt y hy
    · rcases List.mem_append.1 hy with hy | hy
      · obtain ⟨x, hx, hy⟩ := List.mem_flatMap.1 hy
        exact (h2 x hx).lt y hy
      · exact h3.lt y hy
def BS (bk r g f p : Nat) (gv pv : Value) (G : GL) (l : List ByteArray) : HP := Sep (BoxH bk (bcells r g f p gv pv) 43) (BkR gv pv G l)
def BH (bk : Nat) (B : Bk) : HP := fun w F => ∃ gv pv G, G.map (·.2) = B.groups ∧ BS bk B.ring B.gen B.first B.place gv pv G B.pend w F
theorem bs_stab (bk r g f p : Nat) (gv pv : Value) (G : GL) (l : List ByteArray) : Stab (BS bk r g f p gv pv G l) := (boxH_stab _ _ _).sep (bkR_stab _ _ _ _)
theorem bh_stab (bk : Nat) (B : Bk) : Stab (BH bk B) where
  keep := by
    rintro w w' F G ⟨gv, pv, G', h1, h⟩ hk hd
    exact ⟨gv, pv, G', h1, (bs_stab _ _ _ _ _ _ _ _ _).keep h hk hd⟩
  lt := by
    rintro w F ⟨gv, pv, G', h1, h⟩
    exact (bs_stab _ _ _ _ _ _ _ _ _).lt h
theorem BS.box {bk r g f p : Nat} {gv pv : Value} {G : GL} {l : List ByteArray} {w : World} {F : List Nat} (h : BS bk r g f p gv pv G l w F) : w.heap[bk]? = some (.cells (bcells r g f p gv pv) 43 (0, 0)) := by
  obtain ⟨F1, F2, h1, _⟩ := h; exact h1.2
theorem BS.rows {bk r g f p : Nat} {gv pv : Value} {G : GL} {l : List ByteArray} {w : World} {F : List Nat} (h : BS bk r g f p gv pv G l w F) : RowR w gv (G.map (·.1)) ∧ (∀ x ∈ G, RowR w x.1 (scells x.2)) ∧ RowR w pv (scells l) := by
  obtain ⟨F1, F2, h1, h2, _⟩ := h; exact ⟨h2.1.1, h2.2.1, h2.2.2.1⟩
theorem BS.cap {bk r g f p : Nat} {gv pv : Value} {G : GL} {l : List ByteArray} {w : World} {F : List Nat} (h : BS bk r g f p gv pv G l w F) : CapR gv := by
  obtain ⟨F1, F2, h1, h2, _⟩ := h; exact h2.1.2
def bApp (B : Bk) (s : ByteArray) : Int × Bk := if 16384 < s.size then (28, B) else if 256 ≤ B.pend.length then (3, B) else (0, { B with pend := B.pend ++ [s] })
theorem row_ge {w : World} {B : Nat} {e : TypeId} {size n : Nat} {v : Value} {xs : List Value} (h : w.ownsRow B e size v n xs) : ∀ x ∈ rowF v, B ≤ x := by
  intro x hx
  rw [rowF_own (ownsRow_base0 h)] at hx
  exact (h.lt x (by simpa using hx)).1
/-- What a call does that writes the box alone. -/
def ToB (bk : Nat) (A' : HP) (F : List Nat) (w w' : World) : Prop := ∃ F', A' w' F' ∧ Keep [bk] w w' ∧ ∀ x ∈ F', x ∈ F ∨ w.heap.size ≤ x
theorem ToB.refl {bk : Nat} {A : HP} {F : List Nat} {w : World} (h : A w F) : ToB bk A F w w := ⟨F, h, Keep.refl _ _, fun x hx => .inl hx⟩
theorem ToB.of_keep {bk : Nat} {A : HP} (hA : Stab A) {F : List Nat} {w w' : World} (h : A w F) (hk : Keep [] w w') : ToB bk A F w w' := ⟨F, hA.keep h hk (by simp), hk.mono (by simp), fun x hx => .inl hx⟩
theorem ToB.imp {bk : Nat} {A B : HP} {F : List Nat} {w w' : World} (h : ToB bk A F w w') (hi : ∀ w F, A w F → B w F) : ToB bk B F w w' := by
  obtain ⟨F', h1, h2⟩ := h; exact ⟨F', hi _ _ h1, h2⟩
theorem ToB.before {bk : Nat} {A : HP} {F F' : List Nat} {w w1 w2 : World} (h : ToB bk A F' w1 w2) (hk : Keep [bk] w w1) (hs : ∀ x ∈ F', x ∈ F ∨ w.heap.size ≤ x) : ToB bk A F w w2 := by
  obtain ⟨G, h1, h2, h3⟩ := h
  refine ⟨G, h1, hk.trans h2 (fun x hx => .inl hx), fun x hx => ?_⟩
  rcases h3 x hx with h | h
  · exact hs x h
  · exact .inr (by have := hk.size; omega)
theorem ToB.to {bk : Nat} {A : HP} {F : List Nat} {w w' : World} (h : ToB bk A F w w') (hm : bk ∈ F) : To A F w w' := by
  obtain ⟨G, h1, h2, h3⟩ := h
  exact ⟨G, h1, h2.mono (fun x hx => by simp at hx; subst hx; exact hm), h3⟩
def MetB (bk : Nat) (P : Program) (f : Nat) (args : Array Value) (r : Value) (A A' : HP) : Prop := ∀ w F, A w F → Calls P f args w fun e w' => e = .returned r ∧ ToB bk A' F w w'
theorem MetB.met {bk : Nat} {P : Program} {f : Nat} {args : Array Value} {r : Value} {A A' : HP} (h : MetB bk P f args r A A') (hm : ∀ w F, A w F → bk ∈ F) : Met P f args r A A' :=
  fun w F hF => (h w F hF).mono fun e w' hk => ⟨hk.1, hk.2.to (hm w F hF)⟩
theorem bh_mem {bk : Nat} {B : Bk} (w : World) (F : List Nat) (h : BH bk B w F) : bk ∈ F := by
  obtain ⟨_, _, _, _, F1, F2, ⟨rfl, _⟩, _, _, rfl⟩ := h
  simp
/-- A book with other rows and fields. -/
theorem BS.put {bk r g f p r' g' f' p' : Nat} {gv pv gv' pv' : Value} {G G' : GL} {l l' : List ByteArray} {w w' w'' : World} {F P' : List Nat} (h : BS bk r g f p gv pv G l w F) (hk : Keep [] w w') (hR : BkR gv' pv' G' l' w' P')
    (hP : ∀ x ∈ P', x ∈ rowF gv ++ (G.flatMap (fun x => rowF x.1) ++ rowF pv) ∨ w.heap.size ≤ x) (hk2 : Keep [bk] w' w'') (hb : w''.heap[bk]? = some (.cells (bcells r' g' f' p' gv' pv') 43 (0, 0))) : ToB bk (BS bk r' g' f' p' gv' pv' G' l') F w w'' := by
  obtain ⟨F1, F2, ⟨rfl, h1⟩, h2, hd, rfl⟩ := h
  have hlt := lt_of_heap h1
  have hne : ∀ x ∈ P', x ≠ bk := fun x hx e => by
    rcases hP x hx with h | h
    · exact hd bk (by simp) (by rw [h2.2.2.2, ← e]; exact h)
    · omega
  refine ⟨[bk] ++ P', ⟨[bk], P', ⟨rfl, hb⟩, (bkR_stab _ _ _ _).keep hR hk2 (fun x hx hm => hne x hx (by simpa using hm)), fun x hx hm => hne x hm (by simpa using hx), rfl⟩, (hk.mono (G := [bk]) (by simp)).trans hk2 (fun x hx => .inl hx), fun x hx => ?_⟩
  rcases List.mem_append.1 hx with h | h
  · exact .inl (List.mem_append_left _ h)
  · rcases hP x h with h | h
    · exact .inl (List.mem_append_right _ (by rw [h2.2.2.2]; exact h))
    · exact .inr h
set_option maxHeartbeats 4000000 in
theorem bappend_ok (bk : Nat) (B : Bk) (s : ByteArray) (hs : s.size ≤ 16384) (hl : B.pend.length < 256) :
    MetB bk Try.prog 18 #[.pointer (some ⟨bk, 0, none⟩), .string s] (.int .i64 0) (BH bk B) (BH bk { B with pend := B.pend ++ [s] }) := by
  rintro w F ⟨gv, pv, G, hG, hB⟩
  obtain ⟨i0, hi, hz0, hz1, hz2⟩ := info_parts infoS
  have Hi := Lib.hid (And.intro hi (And.intro hz0 (And.intro hz1 hz2)))
  clear hi hz0 hz1 hz2
  obtain ⟨r, g, f, p, groups, pend⟩ := B
  dsimp only at hl hG hB ⊢
  obtain ⟨hr1, hr2, hr3⟩ := hB.rows
  obtain ⟨po, pc, rfl⟩ := hr3.form
  rw [scells_length] at hB hr3
  have hc := cell_of hB.box
  have hf := frozen_of hB.box
  have hlt := lt_of_heap hB.box
  simp only [bcells] at hc
  have HB := Lib.hid hB
  have HG := Lib.hid hG
  have HR3 := Lib.hid hr3
  clear hB hG hr1 hr2 hr3
  go_enter Try.func18, Try.ntmps18
  go_wp2_with (at_builtin; refine wpList_append_row _ rfl _ _ 31 rfl w.heap.size 9 i0 _ 16 Try.underlying31 Hi.out.1 Hi.out.2.1 Hi.out.2.2.1 Hi.out.2.2.2 rfl _ 0 [] rfl (made0 w _ _) _ (scells pend) rfl (HR3.out.keep0 (Keep.alloc _ _ _)) (scells_one _) ?c1 ?c2 ?c3 ?_)
  case c1 => rw [scells_length]; unfold maxLen; omega
  case c2 => rw [scells_length]; omega
  case c3 => simp
  intro v2 w2 ho2 hg2
  have hk2 : Keep [] w w2 := (Keep.alloc [] w _).grownPast hg2 (by intro k hk; simp [Value.ownBlock] at hk; omega)
  have hb2 := hk2.heap HB.out.box (by simp)
  have hc2 := cell_of hb2
  have hf2 := frozen_of hb2
  simp only [bcells] at hc2
  have hs2 := hk2.size
  have Ho2 := Lib.hid ho2
  have Hk2 := Lib.hid hk2
  obtain ⟨vo, vc, rfl⟩ := own_form (ownsRow_base0 ho2)
  clear ho2 hg2 hk2 hb2 hc hf
  go_wp2_with (at_builtin; refine wpList_append_own _ rfl _ _ 31 rfl w.heap.size 9 i0 _ 1 16 Try.underlying31 Hi.out.1 Hi.out.2.1 Hi.out.2.2.1 Hi.out.2.2.2 rfl (by decide) _ _ _ rfl (Ho2.out.alloc _) ⟨w2.heap.size, 0, none⟩ 1 1 [.string s] rfl rfl (one_news _ _ _) (one_str s) ?d1 ?d2 ?d3 ?_)
  case d1 => have := scells_length pend; unfold maxLen; omega
  case d2 => have := scells_length pend; omega
  case d3 => simp; omega
  intro v3 w3 ho3 hg3 _
  rw [scells_snoc] at ho3
  have hk3 : Keep [] w w3 := (Hk2.out.allocPast _).grownPast hg3 (by intro k hk; have := (Ho2.out.lt k hk).1; omega)
  have hb3 := hk3.heap HB.out.box (by simp)
  have hc3 := cell_of hb3
  have hf3 := frozen_of hb3
  simp only [bcells] at hc3
  obtain ⟨uo, uc, rfl⟩ := own_form (ownsRow_base0 ho3)
  have Ho3 := Lib.hid ho3
  have Hk3 := Lib.hid hk3
  have Hb3 := Lib.hid hb3
  clear ho3 hg3 hk3 hb3 hc2 hf2
  go_wp2_with fail
  go_ret
  refine ⟨rfl, (HB.out.put Hk3.out (r' := r) (g' := g) (f' := f) (p' := p) (gv' := gv) (G' := G) (l' := pend ++ [s]) (w'' := _) ⟨⟨HB.out.rows.1.keep0 Hk3.out, HB.out.cap⟩, fun x hx => (HB.out.rows.2.1 x hx).keep0 Hk3.out, RowR.of_own (ownsRow_base0 Ho3.out), rfl⟩ (fun x hx => ?_) (Keep.setCell _ _ _ _ _ (by simp)) ?_).imp fun w F h => ⟨gv, _, G, HG.out, h⟩⟩
  · rcases List.mem_append.1 hx with h | h
    · exact .inl (List.mem_append_left _ h)
    · rcases List.mem_append.1 h with h | h
      · exact .inl (List.mem_append_right _ (List.mem_append_left _ h))
      · exact .inr (row_ge Ho3.out x h)
  · rw [set_same Hb3.out]; rfl
theorem bappend_e (bk : Nat) (B : Bk) (s : ByteArray) (hs : s.size ≤ 140737488355328) (hl : B.pend.length ≤ 256) (hno : ¬ (s.size ≤ 16384 ∧ B.pend.length < 256)) (w : World) (F : List Nat) (h : BH bk B w F) :
    Calls Try.prog 18 #[.pointer (some ⟨bk, 0, none⟩), .string s] w fun e w' => e = .returned (.int .i64 (bApp B s).1) ∧ w' = w := by
  obtain ⟨gv, pv, G, hG, hB⟩ := h
  obtain ⟨r, g, f, p, groups, pend⟩ := B
  unfold bApp
  dsimp only at hl hno hB ⊢
  obtain ⟨po, pc, rfl⟩ := hB.rows.2.2.form
  rw [scells_length] at hB
  have hc := cell_of hB.box
  simp only [bcells] at hc
  clear hB hG
  by_cases h1 : 16384 < s.size
  · clear hno
    go_enter Try.func18, Try.ntmps18
    go_wp2_with fail
    go_ret
    exact ⟨by simp [h1], rfl⟩
  · have h2 : pend.length = 256 := by
      have h3 : ¬ pend.length < 256 := fun h3 => hno ⟨by omega, h3⟩
      omega
    have h4 : s.size ≤ 16384 := by omega
    rw [h2] at hc
    clear hno
    go_enter Try.func18, Try.ntmps18
    go_wp2_with fail
    go_ret
    exact ⟨by simp [h1, h2], rfl⟩
theorem bappend_b (bk : Nat) (B : Bk) (s : ByteArray) (hs : s.size ≤ 140737488355328) (hl : B.pend.length ≤ 256) :
    MetB bk Try.prog 18 #[.pointer (some ⟨bk, 0, none⟩), .string s] (.int .i64 (bApp B s).1) (BH bk B) (BH bk (bApp B s).2) := by
  by_cases h : s.size ≤ 16384 ∧ B.pend.length < 256
  · have e : bApp B s = (0, { B with pend := B.pend ++ [s] }) := by
      unfold bApp; rw [if_neg (by omega), if_neg (by omega)]
    rw [e]
    exact bappend_ok bk B s h.1 h.2
  · have e : (bApp B s).2 = B := by
      unfold bApp
      split
      · rfl
      split
      · rfl
      · rename_i h2 h3; exact absurd ⟨by omega, by omega⟩ h
    rw [e]
    intro w F hF
    exact (bappend_e bk B s hs hl h w F hF).mono fun e w' hk => ⟨hk.1, by rw [hk.2]; exact ToB.refl hF⟩
theorem bappend_m (bk : Nat) (B : Bk) (s : ByteArray) (hs : s.size ≤ 140737488355328) (hl : B.pend.length ≤ 256) :
    Met Try.prog 18 #[.pointer (some ⟨bk, 0, none⟩), .string s] (.int .i64 (bApp B s).1) (BH bk B) (BH bk (bApp B s).2) :=
  (bappend_b bk B s hs hl).met bh_mem
/-! ### used -/
def usedN (L : List (List ByteArray)) : Nat := (L.map secsN).sum
theorem usedN_take (L : List (List ByteArray)) (k : Nat) (h : k < L.length) : usedN (L.take (k + 1)) = usedN (L.take k) + secsN L[k] := by
  unfold usedN; rw [take_succ_get L k h, List.map_append, List.sum_append, List.map_cons, List.map_nil, List.sum_cons, List.sum_nil, Nat.add_zero]
theorem usedN_take_le (L : List (List ByteArray)) (k : Nat) : usedN (L.take k) ≤ usedN L := by
  have := congrArg usedN (List.take_append_drop k L)
  unfold usedN at *
  rw [List.map_append, List.sum_append] at this
  omega
/-- The groups are small enough. -/
def GSmall (L : List (List ByteArray)) : Prop := ∀ l ∈ L, l.length ≤ 256 ∧ ∀ s ∈ l, s.size ≤ 16384
set_option maxHeartbeats 2000000 in
theorem used_c (w : World) (bk r g f p : Nat) (gv pv : Value) (G : GL) (h : w.heap[bk]? = some (.cells (bcells r g f p gv pv) 43 (0, 0))) (hr : RowR w gv (G.map (·.1))) (hx : ∀ x ∈ G, RowR w x.1 (scells x.2))
    (hs : GSmall (G.map (·.2))) (hl : G.length ≤ 1000000) (hu : usedN (G.map (·.2)) ≤ 1000000000) :
    Calls Try.prog 49 #[.pointer (some ⟨bk, 0, none⟩)] w fun e w' => e = .returned (.int .i64 (usedN (G.map (·.2)))) ∧ w' = w := by
  obtain ⟨go, gc, hgv⟩ := hr.form
  rw [List.length_map] at hgv
  subst hgv
  have hc := cell_of h
  simp only [bcells] at hc
  have HE : Hid (∀ k (hk : k < G.length), ∃ a o, go = some ⟨a, o, none⟩ ∧ w.cell? ⟨a, o + k, none⟩ = some (G[k]).1) := by
    intro k hk
    obtain ⟨a, o, c, he, hcell⟩ := hr.elem (by rw [List.length_map]; omega)
    injection he with he
    exact ⟨a, o, he, hcell k _ (by rw [List.getElem?_map, List.getElem?_eq_getElem hk]; rfl)⟩
  have HX := Lib.hid hx
  have HS := Lib.hid hs
  clear h hr hx hs
  go_enter Try.func49, Try.ntmps49
  go_wp2_with fail
  go_loopw [3, 4] (fun n i wr => ∃ k : Nat, k ≤ G.length ∧ i = .int .i64 k ∧ n = .int .i64 (usedN ((G.map (·.2)).take k)) ∧ wr = w) (fun _ i _ => G.length - (intOf i).toNat)
  case atStart => exact ⟨0, by omega, rfl, rfl, rfl⟩
  case round =>
    obtain ⟨k, hk, rfl, rfl, rfl⟩ := hrel
    have hule := usedN_take_le (G.map (·.2)) k
    by_cases hlt : k < G.length
    · obtain ⟨a, o, rfl, hcell⟩ := HE.out k hlt
      have hkm : k < (G.map (·.2)).length := by rw [List.length_map]; exact hlt
      have hus := usedN_take (G.map (·.2)) k hkm
      have hule2 := usedN_take_le (G.map (·.2)) (k + 1)
      rw [List.getElem_map] at hus
      have hsm := HS.out (G[k]).2 (List.mem_map.2 ⟨G[k], List.getElem_mem _, rfl⟩)
      have HSe := Lib.hid (sectors_c wr (G[k]).1 (G[k]).2 (HX.out _ (List.getElem_mem _)) hsm.1 hsm.2)
      have Hus := Lib.hid hus
      rw [hus] at hule2
      generalize usedN ((G.map (·.2)).take k) = u at *
      generalize secsN (G[k]).2 = q at *
      obtain ⟨so, sc, hform⟩ := (HX.out _ (List.getElem_mem hlt)).form
      rw [hform] at hcell HSe
      clear hus hsm hform hkm
      go_wp2_with fail
      refine HSe.out.mono ?_
      rintro e w2 ⟨rfl, hw2⟩
      dsimp only
      subst hw2
      go_wp2_with fail
      go_roundw
      case rel => exact ⟨k + 1, by omega, by go_num, by rw [Hus.out]; go_num, trivial⟩
      case measure => simp [intOf]; omega
    · obtain rfl : k = G.length := by omega
      have ht : (G.map (·.2)).take G.length = G.map (·.2) := List.take_of_length_le (by simp)
      rw [ht]
      go_wp2_with fail
      go_ret
      exact ⟨rfl, rfl⟩
end Go.Proofs.Ytgmggmpkbfljfaa
