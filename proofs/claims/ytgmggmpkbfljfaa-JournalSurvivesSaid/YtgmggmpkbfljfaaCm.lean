/- Commit. -/
import Derived.Test.YtgmggmpkbfljfaaSa
import Derived.Test.YtgmggmpkbfljfaaQa
set_option linter.unusedVariables false
set_option linter.unusedSimpArgs false
set_option maxRecDepth 100000
namespace Go.Proofs.Ytgmggmpkbfljfaa
open Go.RowKit
theorem vBarrier_rest (v : Vol) : (vBarrier v).2.sectors = v.sectors ∧ (vBarrier v).2.pend.length ≤ v.pend.length := by
  have hf : ∀ (l : IS) (v : Vol), (vFlush v l).sectors = v.sectors := fun l => by
    induction l with
    | nil => intro v; rfl
    | cons x l ih => intro v; show (vFlush (vKeep v x.1 x.2) l).sectors = _; rw [ih]; exact (vKeep_rest v _ _).2
  have hop : (vOp v).2.sectors = v.sectors ∧ (vOp v).2.pend = v.pend := by unfold vOp; split <;> (try split) <;> exact ⟨rfl, rfl⟩
  unfold vBarrier
  split
  · exact ⟨rfl, Nat.le_refl _⟩
  · dsimp only
    split
    · exact ⟨hop.1, by rw [hop.2]; exact Nat.le_refl _⟩
    · dsimp only
      exact ⟨by rw [hf]; exact hop.1, by simp⟩
theorem vFill_rest (R base : Nat) (s : ByteArray) : ∀ (m i : Nat) (v : Vol), (vFill R base s m i v).2.sectors = v.sectors ∧ (vFill R base s m i v).2.pend.length ≤ v.pend.length + m
  | 0, i, v => by have := vBarrier_rest v; exact ⟨this.1, by show (vBarrier v).2.pend.length ≤ _; omega⟩
  | m + 1, i, v => by
    have h1 := vWrite_secs v ((2 + (base + i) % R : Nat) : Int) (chunk s i)
    have h2 := vWrite_len v ((2 + (base + i) % R : Nat) : Int) (chunk s i)
    rw [vFill]
    split
    · have := vFill_rest R base s m (i + 1) (vWrite v ((2 + (base + i) % R : Nat) : Int) (chunk s i)).2
      exact ⟨this.1.trans h1, by omega⟩
    · exact ⟨h1, by omega⟩
theorem jW_rest (v : Vol) (p : Pg) : (jW v p).2.sectors = v.sectors ∧ (jW v p).2.pend.length ≤ v.pend.length + 1 := by
  have h1 := vWrite_secs v ((p.g : Int) % 2) (pgS p)
  have h2 := vWrite_len v ((p.g : Int) % 2) (pgS p)
  unfold jW
  split
  · have := vBarrier_rest (vWrite v ((p.g : Int) % 2) (pgS p)).2
    exact ⟨this.1.trans h1, by omega⟩
  · exact ⟨h1, h2⟩
def jNum (J : Jn) : Nat := J.pg.f + J.groups.length
def jNext (J : Jn) : Pg := ⟨J.pg.g + 1, J.pg.f, J.pg.p, J.pg.k + secsN J.pend⟩
def jFill (R : Nat) (v : Vol) (J : Jn) : Int × Vol := vFill R (J.pg.p + J.pg.k) (encS (jNum J) J.pend) (secsN J.pend) 0 v
structure CR where
  n : Int
  e : Int
  v : Vol
  j : Jn
def jCommit (R : Nat) (v : Vol) (J : Jn) : CR :=
  if J.broken then ⟨0, 18, v, J⟩ else
  if (R : Int) - J.pg.k < secsN J.pend then ⟨0, 19, v, J⟩ else
  if (jFill R v J).1 ≠ 0 then ⟨0, (jFill R v J).1, (jFill R v J).2, { J with broken := (jFill R v J).1 == 20 }⟩ else
  if (jW (jFill R v J).2 (jNext J)).1 ≠ 0 then ⟨0, (jW (jFill R v J).2 (jNext J)).1, (jW (jFill R v J).2 (jNext J)).2, { J with broken := (jW (jFill R v J).2 (jNext J)).1 == 20 }⟩ else
  ⟨jNum J, 0, (jW (jFill R v J).2 (jNext J)).2, { pg := jNext J, groups := J.groups ++ [J.pend], pend := [], broken := false }⟩
/-- A journal within its bounds. -/
structure JFit (J : Jn) : Prop where
  g : J.pg.g ≤ 1000000
  f : J.pg.f ≤ 1000000
  p : J.pg.p ≤ 1000000
  k : J.pg.k ≤ 1000000
  n : J.groups.length ≤ 1000000
  l : J.pend.length ≤ 256
  s : ∀ s ∈ J.pend, s.size ≤ 16384
theorem To.sepL {A' B : HP} (hB : Stab B) {F1 F2 : List Nat} {w w' : World} (h2 : B w F2) (hd : ∀ x ∈ F1, x ∉ F2) (ht : To A' F1 w w') : To (Sep A' B) (F1 ++ F2) w w' := by
  obtain ⟨F1', k1, k2, k3⟩ := ht
  have hlt := hB.lt h2
  refine ⟨F1' ++ F2, ⟨F1', F2, k1, hB.keep h2 k2 (fun x hx hx1 => hd x hx1 hx), fun x hx hx2 => ?_, rfl⟩, k2.mono (fun x hx => List.mem_append_left _ hx), fun x hx => ?_⟩
  · rcases k3 x hx with h | h
    · exact hd x h hx2
    · have := hlt x hx2; omega
  · rcases List.mem_append.1 hx with h | h
    · rcases k3 x h with h | h
      · exact .inl (List.mem_append_left _ h)
      · exact .inr h
    · exact .inl (List.mem_append_right _ h)
theorem To.sepR {A B' : HP} (hA : Stab A) {F1 F2 : List Nat} {w w' : World} (h1 : A w F1) (hd : ∀ x ∈ F1, x ∉ F2) (ht : To B' F2 w w') : To (Sep A B') (F1 ++ F2) w w' := by
  obtain ⟨F2', k1, k2, k3⟩ := ht
  have hlt := hA.lt h1
  refine ⟨F1 ++ F2', ⟨F1, F2', hA.keep h1 k2 hd, k1, fun x hx hx2 => ?_, rfl⟩, k2.mono (fun x hx => List.mem_append_right _ hx), fun x hx => ?_⟩
  · rcases k3 x hx2 with h | h
    · exact hd x hx h
    · have := hlt x hx; omega
  · rcases List.mem_append.1 hx with h | h
    · exact .inl (List.mem_append_left _ h)
    · rcases k3 x h with h | h
      · exact .inl (List.mem_append_right _ h)
      · exact .inr h
theorem two_news (w : World) (a b : Value) (t : TypeId) : ∀ (j : Nat) (u : Value), [a, b][j]? = some u → (w.alloc (.cells #[a, b] t)).cell? ((⟨w.heap.size, 0, none⟩ : Addr).add j) = some u := by
  intro j u hj
  match j, hj with
  | 0, hj => simp at hj; subst hj; simp [Addr.add, go_sem]
  | 1, hj => simp at hj; subst hj; simp [Addr.add, go_sem]
theorem two_one {po : Option Addr} {n c : Nat} {k : Int} : ∀ u ∈ [Value.slice po n c, .int .i64 k], u.oneCell' = true := by intro u hu; simp at hu; rcases hu with rfl | rfl <;> rfl
section
variable {P : Program} (w : World)
theorem wp_append2 {o : Oper} {a : Act} {K : Act → World → Prop} {Q : Exit → Act → World → Prop} (s x : Operand) (t : TypeId)
    (ho : o.op = .call { callee := .builtin .append, args := #[s, x], argTypes := #[t, t] })
    (e : TypeId) (i : TypeInfo) (z : Value) (size bytes : Nat) (ht : P.underlying t = some (.slice e)) (hi : P.info? e = some i) (hz : i.zero = some z)
    (hsize : i.size = size) (hby : i.bytes = bytes) (hzs : z.cells.size = size) (hsz : 0 < size)
    (v : Value) (n : Nat) (xs : List Value) (hs : a.eval s = v) (hown : w.ownsRow 0 e size v n xs)
    (ad : Addr) (m c : Nat) (news : List Value) (hx : a.eval x = .slice (some ad) m c) (hl : news.length = m * size) (hnews : ∀ j u, news[j]? = some u → w.cell? (ad.add j) = some u) (h1 : ∀ u ∈ news, u.oneCell' = true)
    (hm : 0 < m) (h63 : n + m ≤ maxLen) (hbytes : (n + m) * bytes ≤ 140737488355328)
    (h : ∀ g cap w', w'.ownsRow 0 e size (.slice (some ⟨g, 0, none⟩) (n + m) cap) (n + m) (xs ++ news) → w.grownBy w' v.ownBlock → (some g = v.ownBlock ∨ w.heap.size ≤ g) → K (a.put o.dst (.slice (some ⟨g, 0, none⟩) (n + m) cap)) w') :
    o.wp P a w K Q := by
  obtain ⟨g, cap, w', hr, h2, h3, h4⟩ := run_append_own2 (P := P) w t o.type e i z size bytes ht hi hz hsize hby hzs hsz v n xs hown ad m c news hl hnews h1 hm h63 hbytes
  unfold Oper.wp execOp
  simp only [ho, resolve, invoke, builtin, Sem.run_bind, Sem.run_pure, Result.andThen_ok, List.map_toArray, List.map_cons, List.map_nil, hs, hx, hr]
  exact h g cap w' h2 h3 h4
theorem step_append2 {ops : Array Oper} {o : Oper} {a : Act} {K : Act → World → Prop} {Q : Exit → Act → World → Prop} {E : Prop} (hgd : o.guard = none) (s x : Operand) (t : TypeId)
    (ho : o.op = .call { callee := .builtin .append, args := #[s, x], argTypes := #[t, t] })
    (e : TypeId) (i : TypeInfo) (z : Value) (size bytes : Nat) (ht : P.underlying t = some (.slice e)) (hi : P.info? e = some i) (hz : i.zero = some z)
    (hsize : i.size = size) (hby : i.bytes = bytes) (hzs : z.cells.size = size) (hsz : 0 < size)
    (v : Value) (n : Nat) (xs : List Value) (hs : a.eval s = v) (hown : w.ownsRow 0 e size v n xs)
    (ad : Addr) (m c : Nat) (news : List Value) (hx : a.eval x = .slice (some ad) m c) (hl : news.length = m * size) (hnews : ∀ j u, news[j]? = some u → w.cell? (ad.add j) = some u) (h1 : ∀ u ∈ news, u.oneCell' = true)
    (hm : 0 < m) (h63 : n + m ≤ maxLen) (hbytes : (n + m) * bytes ≤ 140737488355328)
    (h : ∀ g cap w', w'.ownsRow 0 e size (.slice (some ⟨g, 0, none⟩) (n + m) cap) (n + m) (xs ++ news) → w.grownBy w' v.ownBlock → (some g = v.ownBlock ∨ w.heap.size ≤ g) → K (a.put o.dst (.slice (some ⟨g, 0, none⟩) (n + m) cap)) w') :
    if Region.wanted o (yielded ops a.tmps) = true then Oper.wp P o a w K Q else E := by
  have hw : Region.wanted o (yielded ops a.tmps) = true := by simp [Region.wanted, hgd]
  rw [if_pos hw]
  obtain ⟨g, cap, w', hr, h2, h3, h4⟩ := run_append_own2 (P := P) w t o.type e i z size bytes ht hi hz hsize hby hzs hsz v n xs hown ad m c news hl hnews h1 hm h63 hbytes
  unfold Oper.wp execOp
  simp only [ho, resolve, invoke, builtin, Sem.run_bind, Sem.run_pure, Result.andThen_ok, List.map_toArray, List.map_cons, List.map_nil, hs, hx, hr]
  exact h g cap w' h2 h3 h4
end
theorem JS.gv_ne {jb vb : Nat} {p : Pg} {br : Bool} {gv pv : Value} {G : GL} {gv' pv' : Value} {G' : GL} {l : List ByteArray} {w : World} {F : List Nat} (h : JS jb vb p br gv pv G gv' pv' G' l w F) : gv'.ownBlock ≠ some jb := by
  obtain ⟨F1, F2, h1, ⟨F3, F4, h2, _, _, rfl⟩, hd, _⟩ := h
  intro e
  refine hd jb (by rw [h1.1]; simp) (List.mem_append_left _ ?_)
  rw [h2.2, e]; simp
theorem gcells_snoc (G : GL) (v : Value) (l : List ByteArray) : gcells G ++ [v, .int .i64 (secsN l)] = gcells (G ++ [(v, l)]) := by simp [gcells]
theorem JS.setGrp {jb vb : Nat} {p : Pg} {br : Bool} {gv pv : Value} {G : GL} {gv' gv'' pv' : Value} {G' G'' : GL} {l : List ByteArray} {w w' : World} {F : List Nat} (h : JS jb vb p br gv pv G gv' pv' G' l w F)
    (ht : ∀ F, OwnH 83 2 gv' G'.length (gcells G') w F → To (OwnH 83 2 gv'' G''.length (gcells G'')) F w w') : To (JS jb vb p br gv pv G gv'' pv' G'' l) F w w' :=
  To.right (boxH_stab _ _ _) h fun _ h => To.left ((ownH_stab _ _ _ _ _).sep (rowsH_stab _)) h ht
theorem rowF_own {w : World} {e : TypeId} {size n : Nat} {v : Value} {xs : List Value} (h : w.ownsRow 0 e size v n xs) : rowF v = v.ownBlock.toList := by
  obtain ⟨po, pc, rfl⟩ := own_form h
  cases po <;> rfl
/-- The group that was being made is now one of the groups. -/
theorem JS.moved {jb vb : Nat} {p : Pg} {br : Bool} {gv pv : Value} {G : GL} {gv' pv' : Value} {G' : GL} {l : List ByteArray} {w : World} {F : List Nat} (h : JS jb vb p br gv pv G gv' pv' G' l w F) :
    To (JS jb vb p br gv pv (G ++ [(pv', l)]) gv' (.slice none 0 0) G' []) F w w := by
  obtain ⟨F1, F2, h1, ⟨F3, F4, h2, ⟨F5, F6, h3, h4, d56, rfl⟩, d34, rfl⟩, d12, rfl⟩ := h
  have e5 : F5 = rowF pv' := by rw [rowF_own h3.1]; exact h3.2
  refine ⟨F1 ++ (F3 ++ ([] ++ (F6 ++ F5))), ⟨F1, F3 ++ ([] ++ (F6 ++ F5)), h1, ⟨F3, [] ++ (F6 ++ F5), h2, ⟨[], F6 ++ F5, ⟨own_nil _ _ _, rfl⟩, ⟨fun x hx => ?_, ?_⟩, by simp, rfl⟩, ?_, rfl⟩, ?_, rfl⟩, Keep.refl _ _, fun x hx => .inl ?_⟩
  · rcases List.mem_append.1 hx with h | h
    · exact h4.1 x h
    · simp at h; subst h; exact RowR.of_own h3.1
  · rw [h4.2, e5]; simp
  · intro x hx hm
    refine d34 x hx ?_
    simp at hm ⊢; exact hm.symm
  · intro x hx hm
    refine d12 x hx ?_
    simp at hm ⊢
    rcases hm with h | h | h
    · exact .inl h
    · exact .inr (.inr h)
    · exact .inr (.inl h)
  · simp at hx ⊢
    rcases hx with h | h | h | h
    · exact .inl h
    · exact .inr (.inl h)
    · exact .inr (.inr (.inr h))
    · exact .inr (.inr (.inl h))
theorem infoGr : (Try.prog.info? 83).map (fun i => (i.zero, i.size, i.bytes)) = some (some (.agg #[.slice none 0 0, .int .i64 0]), 2, 32) := by kernel_rfl
set_option maxHeartbeats 4000000 in
theorem commit_m (jb vb mb : Nat) (v : Vol) (J : Jn) (R : Nat) (hR : v.sectors = R + 2) (hR0 : 0 < R) (hR2 : R ≤ 900) (hl : v.pend.length ≤ 2000) (hJ : JFit J) :
    Met Try.prog 22 #[.pointer (some ⟨jb, 0, none⟩)] (.tuple #[.int .i64 (jCommit R v J).n, .int .i64 (jCommit R v J).e]) (Sep (VolH vb mb v) (JH jb vb J)) (Sep (VolH vb mb (jCommit R v J).v) (JH jb vb (jCommit R v J).j)) := by
  rintro w F ⟨Fv, Fj, hV, hJH, hdis, rfl⟩
  have hJH0 := hJH
  obtain ⟨gv, pv, G, hG, hJS⟩ := hJH
  obtain ⟨pg, groups, pend, broken⟩ := J
  obtain ⟨fg, ff, fp, fk, fn, fl, fs⟩ := hJ
  dsimp only at fg ff fp fk fn fl fs hG hJS
  have hgl : G.length = groups.length := by rw [← hG]; simp
  obtain ⟨go, gc, rfl⟩ := own_form hJS.grp
  obtain ⟨po, pc, rfl⟩ := own_form hJS.pnd
  have HS := Lib.hid (state_c w jb vb pg (.slice go G.length gc) (.slice po pend.length pc) broken hJS.box)
  obtain ⟨pw, hva, hFv⟩ := hV
  have Hsec := Lib.hid (jsectors_c w _ pend (RowR.of_own hJS.pnd) fl fs)
  have Hfree := Lib.hid (free_c w jb vb mb pg (.slice go G.length gc) (.slice po pend.length pc) pw broken v R hJS.box hva hR (by omega) (by omega))
  have hneed : secsN pend ≤ 40000 := by
    have := sumS_le pend fs
    unfold secsN; omega
  have hc := cell_of hJS.box
  simp only [jcells] at hc
  have HJS := Lib.hid hJS
  have HV : Hid (VolH vb mb v w Fv) := ⟨pw, hva, hFv⟩
  have HG := Lib.hid hG
  have HD := Lib.hid hdis
  have HR := Lib.hid hR
  have Hgl := Lib.hid hgl
  have HFS := Lib.hid fs
  have H0 : Hid (Sep (VolH vb mb v) (JH jb vb ⟨pg, groups, pend, broken⟩) w (Fv ++ Fj)) := ⟨Fv, Fj, ⟨pw, hva, hFv⟩, hJH0, hdis, rfl⟩
  clear hJH0 hJS hva hFv hG hdis hR hgl fs
  cases broken with
  | true =>
    have hcm : jCommit R v ⟨pg, groups, pend, true⟩ = ⟨0, 18, v, ⟨pg, groups, pend, true⟩⟩ := rfl
    rw [hcm]
    go_enter Try.func22, Try.ntmps22
    go_wp2_with fail
    refine HS.out.mono ?_
    rintro e w' ⟨rfl, rfl⟩
    have hj0 : jState true = 18 := rfl
    rw [hj0]
    go_wp2_with fail
    go_ret2
    exact ⟨rfl, To.refl H0.out⟩
  | false =>
    by_cases hno : (R : Int) - pg.k < secsN pend
    · have hcm : jCommit R v ⟨pg, groups, pend, false⟩ = ⟨0, 19, v, ⟨pg, groups, pend, false⟩⟩ := by
        unfold jCommit; rw [if_neg (by simp), if_pos hno]
      rw [hcm]
      go_enter Try.func22, Try.ntmps22
      go_wp2_with fail
      refine HS.out.mono ?_
      rintro e w' ⟨rfl, rfl⟩
      have hj0 : jState false = 0 := rfl
      rw [hj0]
      go_wp2_with fail
      refine Hsec.out.mono ?_
      rintro e w' ⟨rfl, rfl⟩
      go_wp2_with fail
      refine Hfree.out.mono ?_
      rintro e w1 ⟨rfl, hk1⟩
      have Hk1 := Lib.hid hk1
      clear hk1
      go_wp2_with fail
      go_ret2
      exact ⟨rfl, To.of_keep ((volH_stab _ _ _).sep (jh_stab _ _ _)) H0.out Hk1.out⟩
    · have hle : (secsN pend : Int) ≤ (R : Int) - pg.k := by omega
      go_enter Try.func22, Try.ntmps22
      go_wp2_with fail
      refine HS.out.mono ?_
      rintro e w' ⟨rfl, rfl⟩
      have hj0 : jState false = 0 := rfl
      rw [hj0]
      go_wp2_with fail
      refine Hsec.out.mono ?_
      rintro e w' ⟨rfl, rfl⟩
      go_wp2_with fail
      refine Hfree.out.mono ?_
      rintro e w1 ⟨rfl, hk1⟩
      have HJ1 := Lib.hid ((js_stab _ _ _ _ _ _ _ _ _ _ _).keep HJS.out hk1 (by simp))
      have HV1 := Lib.hid ((volH_stab _ _ _).keep HV.out hk1 (by simp))
      have Hk1 := Lib.hid hk1
      clear hk1 hc
      go_wp2_with fail
      refine (last_c w1 jb vb pg go G.length gc (.slice po pend.length pc) false HJ1.out.box (by omega) (by rw [Hgl.out]; omega)).mono ?_
      rintro e w2 ⟨rfl, hk2⟩
      have HJ2 := Lib.hid ((js_stab _ _ _ _ _ _ _ _ _ _ _).keep HJ1.out hk2 (by simp))
      have HV2 := Lib.hid ((volH_stab _ _ _).keep HV1.out hk2 (by simp))
      have Hk2 := Lib.hid (Hk1.out.trans0 hk2)
      clear hk2
      have hc := cell_of HJ2.out.box
      simp only [jcells] at hc
      have hnum : ((pg.f : Int) + (G.length : Int)) = ((jNum ⟨pg, groups, pend, false⟩ : Nat) : Int) := by
        unfold jNum; dsimp only; rw [Hgl.out]; omega
      have hgb : G.length ≤ 1000000 := by rw [Hgl.out]; exact fn
      have hnb : jNum ⟨pg, groups, pend, false⟩ ≤ 2000000 := by unfold jNum; dsimp only; omega
      generalize hjn : jNum ⟨pg, groups, pend, false⟩ = num at *
      have Hjn := Lib.hid hjn
      have Hnum := Lib.hid hnum
      clear hjn hnum
      go_wp2_with fail
      rw [Hnum.out]
      refine (encode_c w2 num _ pend (RowR.of_own HJ2.out.pnd) (by omega) fl HFS.out).mono ?_
      rintro e w3 ⟨rfl, hk3⟩
      have HJ3 := Lib.hid ((js_stab _ _ _ _ _ _ _ _ _ _ _).keep HJ2.out hk3 (by simp))
      have HV3 := Lib.hid ((volH_stab _ _ _).keep HV2.out hk3 (by simp))
      have Hk3 := Lib.hid (Hk2.out.trans0 hk3)
      clear hk3 hc
      have hjF : jb ∉ Fv := by
        obtain ⟨F1, F2, h1, _, _, hF⟩ := HJ3.out
        intro hm
        exact HD.out jb hm (by rw [hF, h1.1]; simp)
      go_wp2_with fail
      refine (fill_c w3 Fv jb vb mb pg (.slice go G.length gc) (.slice po pend.length pc) false v R (secsN pend) (encS num pend) HV3.out HJ3.out.box hjF HR.out (by omega) hR0 (encS_size num pend) (by omega) (by omega) (by omega) (by omega)).mono ?_
      have hjf : jFill R v ⟨pg, groups, pend, false⟩ = vFill R (pg.p + pg.k) (encS num pend) (secsN pend) 0 v := by unfold jFill; rw [Hjn.out]
      have hfr := vFill_rest R (pg.p + pg.k) (encS num pend) (secsN pend) 0 v
      rw [← hjf] at hfr ⊢
      have hcm : jCommit R v ⟨pg, groups, pend, false⟩ = if (jFill R v ⟨pg, groups, pend, false⟩).1 ≠ 0 then ⟨0, (jFill R v ⟨pg, groups, pend, false⟩).1, (jFill R v ⟨pg, groups, pend, false⟩).2, ⟨pg, groups, pend, (jFill R v ⟨pg, groups, pend, false⟩).1 == 20⟩⟩ else
          if (jW (jFill R v ⟨pg, groups, pend, false⟩).2 (jNext ⟨pg, groups, pend, false⟩)).1 ≠ 0 then ⟨0, (jW (jFill R v ⟨pg, groups, pend, false⟩).2 (jNext ⟨pg, groups, pend, false⟩)).1, (jW (jFill R v ⟨pg, groups, pend, false⟩).2 (jNext ⟨pg, groups, pend, false⟩)).2, ⟨pg, groups, pend, (jW (jFill R v ⟨pg, groups, pend, false⟩).2 (jNext ⟨pg, groups, pend, false⟩)).1 == 20⟩⟩
          else ⟨jNum ⟨pg, groups, pend, false⟩, 0, (jW (jFill R v ⟨pg, groups, pend, false⟩).2 (jNext ⟨pg, groups, pend, false⟩)).2, ⟨jNext ⟨pg, groups, pend, false⟩, groups ++ [pend], [], false⟩⟩ := by
        unfold jCommit; rw [if_neg (by simp), if_neg (by dsimp only; omega)]
      rw [Hjn.out] at hcm
      generalize jFill R v ⟨pg, groups, pend, false⟩ = r at *
      obtain ⟨e1, v1⟩ := r
      dsimp only at hcm hfr ⊢
      rintro e w4 ⟨rfl, ht4⟩
      have HT4 := Lib.hid (ht4.sepL (js_stab _ _ _ _ _ _ _ _ _ _ _) HJ3.out HD.out)
      have Hcm := Lib.hid hcm
      have Hv1 : Hid (v1.sectors = R + 2) := by show _ = _; rw [hfr.1, HR.out]
      have Hl1 : Hid (v1.pend.length ≤ 2900) := by have := hfr.2; show _ ≤ _; omega
      clear hjf hfr hcm ht4
      by_cases he : e1 = 0
      · subst he
        obtain ⟨F4, ⟨F5, F6, h5, h6, h56, rfl⟩, hk4, hs4⟩ := HT4.out
        have hcb := cell_of h6.box
        have hfb := frozen_of h6.box
        simp only [jcells] at hcb
        have H5 := Lib.hid h5
        have H6 := Lib.hid h6
        have H56 := Lib.hid h56
        have Hk4 := Lib.hid hk4
        have Hs4 := Lib.hid hs4
        have hjl := lt_of_heap h6.box
        clear h5 h6 h56 hk4 hs4
        obtain ⟨pgg, pgf, pgp, pgk⟩ := pg
        dsimp only at fg ff fp fk hle hno hcb
        have hlt4 : ∀ x ∈ F5 ++ F6, x < w4.heap.size := fun x hx => by
          rcases List.mem_append.1 hx with h | h
          · exact (volH_stab _ _ _).lt H5.out x h
          · exact (js_stab _ _ _ _ _ _ _ _ _ _ _).lt H6.out x h
        have Hlt4 := Lib.hid hlt4
        clear hlt4
        go_wp2_with fail
        have hq1 : ((pgg : Int) + 1) = ((pgg + 1 : Nat) : Int) := by omega
        have hq2 : ((pgk : Int) + (secsN pend : Int)) = ((pgk + secsN pend : Nat) : Int) := by omega
        rw [hq1, hq2]
        have Hq5 := Lib.hid (World.alloc_heap_new w4 (.cells #[.int .i64 ((pgg + 1 : Nat) : Int), .int .i64 pgf, .int .i64 pgp, .int .i64 ((pgk + secsN pend : Nat) : Int)] 73))
        have Hk5 := Lib.hid (Keep.alloc [] w4 (.cells #[.int .i64 ((pgg + 1 : Nat) : Int), .int .i64 pgf, .int .i64 pgp, .int .i64 ((pgk + secsN pend : Nat) : Int)] 73))
        generalize w4.alloc (.cells #[.int .i64 ((pgg + 1 : Nat) : Int), .int .i64 pgf, .int .i64 pgp, .int .i64 ((pgk + secsN pend : Nat) : Int)] 73) = w5 at *
        have hqg : pgg + 1 ≤ 1000001 := by omega
        have hqk : pgk + secsN pend ≤ 1040000 := by omega
        have hnx : jNext ⟨⟨pgg, pgf, pgp, pgk⟩, groups, pend, false⟩ = ⟨pgg + 1, pgf, pgp, pgk + secsN pend⟩ := rfl
        rw [hnx] at Hcm
        clear hq1 hq2 hnx hcb hfb
        generalize pgg + 1 = qg at *
        generalize pgk + secsN pend = qk at *
        have hbx : ∀ n : KW w5, ∀ i, (Wk w5 n).cell? ⟨w4.heap.size, i, none⟩ = #[.int .i64 qg, .int .i64 pgf, .int .i64 pgp, .int .i64 qk][i]? := fun n => cell_of (n.k.heap Hq5.out (by simp))
        have hx0 := fun n => hbx n 0
        have hx1 := fun n => hbx n 1
        have hx2 := fun n => hbx n 2
        have hx3 := fun n => hbx n 3
        have hj : ∀ n : KW w5, ∀ i, (Wk w5 n).cell? ⟨jb, i, none⟩ = (jcells vb ⟨pgg, pgf, pgp, pgk⟩ (.slice go G.length gc) (.slice po pend.length pc) false)[i]? := fun n => cell_of ((Hk5.out.trans0 n.k).heap H6.out.box (by simp))
        have hj0' := fun n => hj n 0
        simp only [jcells, List.getElem?_toArray, List.getElem?_cons_zero, List.getElem?_cons_succ] at hx0 hx1 hx2 hx3 hj0'
        clear hbx hj
        refine wp_region_keep_tail 5 (by kernel_rfl) (by kernel_rfl) ?_
        simp only [List.take_succ_cons, List.take_zero, List.drop_succ_cons, List.drop_zero]
        repeat (first
          | go_big_quiet_skip
          | (go_big_quiet_want; go_big_quiet_op; go_big_quiet_on))
        refine wpQuiet_nil ?_
        rintro w6 ⟨⟨_, hk6⟩, rfl⟩
        have hk46 := Hk5.out.trans0 hk6
        have H5' := Lib.hid ((volH_stab _ _ _).keep H5.out hk46 (by simp))
        have H6' := Lib.hid ((js_stab _ _ _ _ _ _ _ _ _ _ _).keep H6.out hk46 (by simp))
        have Hq6 := Lib.hid (hk6.heap Hq5.out (by simp))
        have Hk46 := Lib.hid hk46
        clear hk6 hk46 hx0 hx1 hx2 hx3 hj0'
        go_wp2_with fail
        refine (jwrite_m vb mb v1 ⟨qg, pgf, pgp, qk⟩ ⟨by dsimp only; omega, by dsimp only; omega, by dsimp only; omega, by dsimp only; omega⟩ (by have := Hl1.out; omega) w6 F5 H5'.out).mono ?_
        generalize jW v1 ⟨qg, pgf, pgp, qk⟩ = r2 at *
        obtain ⟨e2, v2⟩ := r2
        have hcm2 := Hcm.out
        dsimp only at hcm2 ⊢
        rw [if_neg (by simp)] at hcm2
        rintro e w7 ⟨rfl, ht7⟩
        have HT7 := Lib.hid (ht7.sepL (js_stab _ _ _ _ _ _ _ _ _ _ _) H6'.out H56.out)
        have Hq7 : Hid (w7.heap[w4.heap.size]? = _) := (by obtain ⟨F', _, k, _⟩ := ht7; exact k.heap Hq6.out (fun hm => by have := Hlt4.out _ (List.mem_append_left F6 hm); omega))
        have Hcm2 := Lib.hid hcm2
        clear hcm2 ht7
        by_cases he2 : e2 = 0
        · subst he2
          have hst : jCommit R v ⟨⟨pgg, pgf, pgp, pgk⟩, groups, pend, false⟩ = ⟨num, 0, v2, ⟨⟨qg, pgf, pgp, qk⟩, groups ++ [pend], [], false⟩⟩ := by rw [Hcm2.out, if_neg (by simp)]
          have Hst := Lib.hid hst
          clear hst
          obtain ⟨F7, ⟨F8, F9, h8, h9, h89, rfl⟩, hk7, hs7⟩ := HT7.out
          have H8 := Lib.hid h8
          have H9 := Lib.hid h9
          have H89 := Lib.hid h89
          have Hk7 := Lib.hid hk7
          have Hs7 := Lib.hid hs7
          have hcb := cell_of h9.box
          have hfb := frozen_of h9.box
          simp only [jcells] at hcb
          have hbx := cell_of Hq7.out
          clear h8 h9 h89 hk7 hs7
          go_wp2_with fail
          have ht8 : To (JS jb vb ⟨qg, pgf, pgp, qk⟩ false (.slice go G.length gc) (.slice po pend.length pc) G (.slice go G.length gc) (.slice po pend.length pc) G pend) F9 w7 ((((w7.setCell ⟨jb, 1, none⟩ (.int .i64 qg)).setCell ⟨jb, 2, none⟩ (.int .i64 pgf)).setCell ⟨jb, 3, none⟩ (.int .i64 pgp)).setCell ⟨jb, 4, none⟩ (.int .i64 qk)) :=
            (((H9.out.setBox (q := ⟨qg, pgf, pgp, pgk⟩) (cr := false) 1 _ rfl).trans fun F' h => h.setBox (q := ⟨qg, pgf, pgp, pgk⟩) (cr := false) 2 _ rfl).trans fun F' h => h.setBox (q := ⟨qg, pgf, pgp, pgk⟩) (cr := false) 3 _ rfl).trans fun F' h => h.setBox (q := ⟨qg, pgf, pgp, qk⟩) (cr := false) 4 _ rfl
          have Ht8 := Lib.hid ht8
          clear ht8 hcb hfb hbx
          generalize ((((w7.setCell ⟨jb, 1, none⟩ (.int .i64 qg)).setCell ⟨jb, 2, none⟩ (.int .i64 pgf)).setCell ⟨jb, 3, none⟩ (.int .i64 pgp)).setCell ⟨jb, 4, none⟩ (.int .i64 qk)) = w8 at *
          obtain ⟨F10, h10, hk10, hs10⟩ := Ht8.out
          have H10 := Lib.hid h10
          have Hk10 := Lib.hid hk10
          have Hs10 := Lib.hid hs10
          have hc8 := cell_of h10.box
          have hf8 := frozen_of h10.box
          have hj8 := lt_of_heap h10.box
          simp only [jcells] at hc8
          have x5 := hc8 5
          have x6 := hc8 6
          simp only [List.getElem?_toArray, List.getElem?_cons_zero, List.getElem?_cons_succ] at x5 x6
          obtain ⟨i0, hi, hz0, hz1, hz2⟩ := info_parts infoGr
          have Hi := Lib.hid (And.intro hi (And.intro hz0 (And.intro hz1 hz2)))
          clear h10 hk10 hs10 hi hz0 hz1 hz2 hc8
          refine wp_region_held_tail (S := fun w' => w'.cell? ⟨jb, 5, none⟩ = some (.slice go G.length gc) ∧ w'.cell? ⟨jb, 6, none⟩ = some (.slice po pend.length pc)) 13 [11, 12] (by kernel_rfl) (by kernel_rfl) (fun _ _ d _ _ h => by cases d <;> exact h) ?_
          simp only [List.take_succ_cons, List.take_zero, List.drop_succ_cons, List.drop_zero]
          have hS0 : w8.drew.cell? ⟨jb, 5, none⟩ = some (.slice go G.length gc) ∧ w8.drew.cell? ⟨jb, 6, none⟩ = some (.slice po pend.length pc) := ⟨x5, x6⟩
          refine' heldL_val (v := _) (by rfl) (by rfl) hS0 (fun w hw => ?hrun0) (fun K hK => ?hnext0)
          case hrun0 => (obtain ⟨s5, s6⟩ := hw; go_simp; try rfl)
          rotate_left 0
          go_simp
          refine hK _ ?_
          clear hK K
          refine' heldL_val (v := _) (by rfl) (by rfl) hS0 (fun w hw => ?hrun1) (fun K hK => ?hnext1)
          case hrun1 => (obtain ⟨s5, s6⟩ := hw; go_simp; try rfl)
          rotate_left 0
          go_simp
          refine hK _ ?_
          clear hK K
          refine' heldL_val (v := _) (by rfl) (by rfl) hS0 (fun w hw => ?hrun2) (fun K hK => ?hnext2)
          case hrun2 => (obtain ⟨s5, s6⟩ := hw; go_simp; try rfl)
          rotate_left 0
          go_simp
          refine hK _ ?_
          clear hK K
          refine' heldL_val (v := _) (by rfl) (by rfl) hS0 (fun w hw => ?hrun3) (fun K hK => ?hnext3)
          case hrun3 => (obtain ⟨s5, s6⟩ := hw; go_simp; try rfl)
          rotate_left 0
          go_simp
          refine hK _ ?_
          clear hK K
          refine' heldL_val (v := _) (by rfl) (by rfl) hS0 (fun w hw => ?hrun4) (fun K hK => ?hnext4)
          case hrun4 => (obtain ⟨s5, s6⟩ := hw; go_simp; try rfl)
          rotate_left 0
          go_simp
          refine hK _ ?_
          clear hK K
          refine' heldL_val (v := _) (by rfl) (by rfl) hS0 (fun w hw => ?hrun5) (fun K hK => ?hnext5)
          case hrun5 => (obtain ⟨s5, s6⟩ := hw; go_simp; try rfl)
          rotate_left 0
          go_simp
          refine hK _ ?_
          clear hK K
          refine' heldL_val (v := _) (by rfl) (by rfl) hS0 (fun w hw => ?hrun6) (fun K hK => ?hnext6)
          case hrun6 => (obtain ⟨s5, s6⟩ := hw; go_simp; try rfl)
          rotate_left 0
          go_simp
          refine hK _ ?_
          clear hK K
          refine' heldL_val (v := _) (by rfl) (by rfl) hS0 (fun w hw => ?hrun7) (fun K hK => ?hnext7)
          case hrun7 => (obtain ⟨s5, s6⟩ := hw; go_simp; try rfl)
          rotate_left 0
          go_simp
          refine hK _ ?_
          clear hK K
          refine' heldL_val (v := _) (by rfl) (by rfl) hS0 (fun w hw => ?hrun8) (fun K hK => ?hnext8)
          case hrun8 => (obtain ⟨s5, s6⟩ := hw; go_simp; try rfl)
          rotate_left 0
          go_simp
          refine hK _ ?_
          clear hK K
          refine' heldL_val (v := _) (by rfl) (by rfl) hS0 (fun w hw => ?hrun9) (fun K hK => ?hnext9)
          case hrun9 => (obtain ⟨s5, s6⟩ := hw; go_simp; try rfl)
          rotate_left 0
          go_simp
          refine hK _ ?_
          clear hK K
          refine' heldL_val (v := _) (by rfl) (by rfl) hS0 (fun w hw => ?hrun10) (fun K hK => ?hnext10)
          case hrun10 => (obtain ⟨s5, s6⟩ := hw; go_simp; try rfl)
          rotate_left 0
          go_simp
          refine hK _ ?_
          clear hK K
          refine heldL_mut (by rfl) (by rfl) (fun K hK => ?_)
          go_simp
          have hS1 : (w8.drew.alloc (.cells #[.slice po pend.length pc, .int .i64 (secsN pend)] 83)).cell? ⟨jb, 5, none⟩ = some (.slice go G.length gc) ∧ (w8.drew.alloc (.cells #[.slice po pend.length pc, .int .i64 (secsN pend)] 83)).cell? ⟨jb, 6, none⟩ = some (.slice po pend.length pc) :=
            ⟨(World.cell?_of_block ((Keep.alloc [] w8.drew _).block jb hj8 (by simp))).trans x5, (World.cell?_of_block ((Keep.alloc [] w8.drew _).block jb hj8 (by simp))).trans x6⟩
          refine hK _ _ hS1 ?_
          clear hK K
          refine heldL_mut (by rfl) (by rfl) (fun K hK => ?_)
          refine wp_append2 _ _ _ 74 (by rfl) 83 i0 _ 2 32 Try.underlying74 Hi.out.1 Hi.out.2.1 Hi.out.2.2.1 Hi.out.2.2.2 rfl (by decide) _ _ _ (by rfl) (own_keep' H10.out.grp ((Keep.drew [] w8).trans0 (Keep.alloc [] _ _)) (by simp)) ⟨w8.heap.size, 0, none⟩ 1 1 [.slice po pend.length pc, .int .i64 (secsN pend)] (by rfl) rfl (two_news w8.drew _ _ _) two_one (by decide) (by unfold maxLen; omega) (by omega) ?_
          intro g cap w9 ho hg hfr
          have hk9 := (((Keep.drew [] w8).trans0 (Keep.alloc [] _ _)).mono (G := (Value.slice go G.length gc).ownBlock.toList) (by simp)).trans (Keep.grown hg (F := (Value.slice go G.length gc).ownBlock.toList) (fun k hk => by rw [hk]; simp)) (fun x hx => .inl hx)
          have hb9 := hk9.heap H10.out.box (fun hm => H10.out.gv_ne (by simpa using hm))
          have y5 : w9.cell? ⟨jb, 5, none⟩ = some (.slice go G.length gc) := by rw [cell_of hb9]; rfl
          have y6 : w9.cell? ⟨jb, 6, none⟩ = some (.slice po pend.length pc) := by rw [cell_of hb9]; rfl
          refine hK _ _ ⟨y5, y6⟩ ?_
          clear hK K
          refine heldL_nil ?_
          have hf9 := frozen_of hb9
          have hc9 := cell_of hb9
          simp only [jcells] at hc9
          rw [gcells_snoc] at ho
          have hgr : (some g = (Value.slice go G.length gc).ownBlock ∨ w8.heap.size ≤ g) := by
            rcases hfr with h | h
            · exact .inl h
            · right; simp at h; omega
          have ht9 : To (JS jb vb ⟨qg, pgf, pgp, qk⟩ false (.slice go G.length gc) (.slice po pend.length pc) G (.slice (some ⟨g, 0, none⟩) (G.length + 1) cap) (.slice po pend.length pc) (G ++ [(.slice po pend.length pc, pend)]) pend) F10 w8 w9 := by
            have h1 := (js_stab _ _ _ _ _ _ _ _ _ _ _).keep H10.out ((Keep.drew [] w8).trans0 (Keep.alloc [] _ (.cells #[.slice po pend.length pc, .int .i64 (secsN pend)] 83))) (by simp)
            refine To.from (h1.setGrp fun F' hF' => ?_) (((Keep.drew [] w8).trans0 (Keep.alloc [] _ (.cells #[.slice po pend.length pc, .int .i64 (secsN pend)] 83))).mono (by simp))
            have hl1 : (G ++ [((.slice po pend.length pc : Value), pend)]).length = G.length + 1 := by simp
            rw [hl1]
            exact own_to hF' ho hg hfr
          have Ht9 := Lib.hid ht9
          clear ho hg hfr hk9 hb9 y5 y6 ht9 hS0 hS1 x5 x6 hf8
          go_wp2_with fail
          go_ret2
          rw [Hst.out]
          refine ⟨rfl, ?_⟩
          have htz := ((Ht9.out.trans fun F' h => h.setBox (q := ⟨qg, pgf, pgp, qk⟩) (cr := false) (hv := .slice (some ⟨g, 0, none⟩) (G.length + 1) cap) (qv := .slice po pend.length pc) 5 _ rfl).trans fun F' h => h.setBox (q := ⟨qg, pgf, pgp, qk⟩) (cr := false) (hv := .slice (some ⟨g, 0, none⟩) (G.length + 1) cap) (qv := .slice none 0 0) 6 (.slice none 0 0) rfl).trans fun F' h => h.moved
          have hj := (htz.before Hk10.out Hs10.out).imp (B := JH jb vb ⟨⟨qg, pgf, pgp, qk⟩, groups ++ [pend], [], false⟩) (fun w F h => ⟨_, _, _, by simp [HG.out], h⟩)
          exact ((((hj.sepR (volH_stab _ _ _) H8.out H89.out).before Hk7.out Hs7.out).from (Hk46.out.mono (by simp))).before Hk4.out Hs4.out).from (Hk3.out.mono (by simp))
        · have hb1 : (e2 != 0) = true := by rw [bne_iff_ne]; exact he2
          have hst : jCommit R v ⟨⟨pgg, pgf, pgp, pgk⟩, groups, pend, false⟩ = ⟨0, e2, v2, ⟨⟨pgg, pgf, pgp, pgk⟩, groups, pend, e2 == 20⟩⟩ := by rw [Hcm2.out, if_pos he2]
          have Hst := Lib.hid hst
          clear hst he2
          obtain ⟨F7, ⟨F8, F9, h8, h9, h89, rfl⟩, hk7, hs7⟩ := HT7.out
          have H8 := Lib.hid h8
          have H9 := Lib.hid h9
          have H89 := Lib.hid h89
          have Hk7 := Lib.hid hk7
          have Hs7 := Lib.hid hs7
          clear h8 h9 h89 hk7 hs7
          go_wp2_with fail
          refine (failed_m jb vb ⟨⟨pgg, pgf, pgp, pgk⟩, groups, pend, false⟩ e2 w7 F9 ⟨_, _, G, HG.out, H9.out⟩).mono ?_
          rintro e w8 ⟨rfl, ht8⟩
          have HT8 := Lib.hid ht8
          clear ht8
          go_wp2_with fail
          go_ret2
          rw [Hst.out]
          exact ⟨rfl, ((((HT8.out.sepR (volH_stab _ _ _) H8.out H89.out).before Hk7.out Hs7.out).from (Hk46.out.mono (by simp))).before Hk4.out Hs4.out).from (Hk3.out.mono (by simp))⟩
      · have hb1 : (e1 != 0) = true := by rw [bne_iff_ne]; exact he
        have hst : jCommit R v ⟨pg, groups, pend, false⟩ = ⟨0, e1, v1, ⟨pg, groups, pend, e1 == 20⟩⟩ := by rw [Hcm.out, if_pos he]
        have Hst := Lib.hid hst
        clear hst he
        obtain ⟨F4, ⟨F5, F6, h5, h6, h56, rfl⟩, hk4, hs4⟩ := HT4.out
        have H5 := Lib.hid h5
        have H6 := Lib.hid h6
        have H56 := Lib.hid h56
        have Hk4 := Lib.hid hk4
        have Hs4 := Lib.hid hs4
        clear h5 h6 h56 hk4 hs4
        go_wp2_with fail
        refine (failed_m jb vb ⟨pg, groups, pend, false⟩ e1 w4 F6 ⟨_, _, G, HG.out, H6.out⟩).mono ?_
        rintro e w5 ⟨rfl, ht5⟩
        have HT5 := Lib.hid ht5
        clear ht5
        go_wp2_with fail
        go_ret2
        rw [Hst.out]
        exact ⟨rfl, ((HT5.out.sepR (volH_stab _ _ _) H5.out H56.out).before Hk4.out Hs4.out).from (Hk3.out.mono (by simp))⟩
end Go.Proofs.Ytgmggmpkbfljfaa
