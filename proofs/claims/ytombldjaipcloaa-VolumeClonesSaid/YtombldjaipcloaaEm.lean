/- maps.Equal at the device's map: whether two maps hold the same; maps.Clone: a map that holds the same. -/
import Derived.Test.YtombldjaipcloaaMap
import Derived.Maps.RangeWalk
import Derived.Maps.OwnSet
import Derived.Maps.StringElems
import Derived.Maps.Ext
import Derived.Lib.SlMapEqual
import Derived.Laws.IdiomRangeMap
import Derived.Laws.Externs
set_option linter.unusedVariables false
set_option linter.unusedSimpArgs false
namespace Go.Proofs.Ytombldjaipcloaa
open Go.RowKit Go.Maps
theorem keyedI : Keyed Try.prog 3 := int_keyed Try.underlying3
def rdI (p : Int × ByteArray) : Lit × DataW Unit := (Lit.int .i64 p.1, .lit (.string p.2.data.toList))
def datI (m : IS) : DataW Unit := .map ((m.map rdI).foldr DataW.insert [])
def Goods (m : IS) : Prop := m.length ≤ maxLen ∧ ∀ p ∈ m, p.2.size ≤ maxLen ∧ (Lit.int .i64 p.1).wf = true
noncomputable def rgKV (kv : Value × Value) : Option (Lit × DataW Unit) := (keyOf Try.prog 3 kv.1).bind fun key => (plainElem Try.prog 9 kv.2).map fun y => (key, y.1)
theorem rgKV_eq (p : Int × ByteArray) (h : p.2.size ≤ maxLen ∧ (Lit.int .i64 p.1).wf = true) : rgKV (kvP p) = some (rdI p) := by
  unfold rgKV kvP rdI
  rw [keyOf_int_mk Try.underlying3 h.2, plainElem_string Try.underlying9 h.1]
  rfl
theorem mapAt_owns {w : World} {mb : Nat} {m : IS} (h : MapAt w mb m) (hg : Goods m) : w.ownsMap Try.prog 3 (plainElem Try.prog 9) mb m.length (datI m) := by
  obtain ⟨es, clk, hb, he, hst⟩ := h
  have hlen : es.size = m.length := by simpa using congrArg List.length he
  have hx : ∀ x ∈ es.toList, ∃ p ∈ m, kvP p = kvE x := fun x hx => by
    have hm : kvE x ∈ es.toList.map kvE := List.mem_map.2 ⟨x, hx, rfl⟩
    rw [he] at hm
    exact List.mem_map.1 hm
  have hrd : ∀ x ∈ es.toList, ∃ p ∈ m, WideElems.rd Try.prog 3 (plainElem (H := Unit) Try.prog 9) x = some (rdI p) := fun x hxm => by
    obtain ⟨p, hp, e⟩ := hx x hxm
    refine ⟨p, hp, ?_⟩
    have : WideElems.rd Try.prog 3 (plainElem (H := Unit) Try.prog 9) x = rgKV (kvE x) := rfl
    rw [this, ← e, rgKV_eq p (hg.2 p hp)]
  refine ⟨es, clk, hb, ⟨by rw [hlen]; exact hg.1, hst, fun x hxm => ?_⟩, by omega, ?_⟩
  · obtain ⟨p, _, e⟩ := hrd x hxm; exact ⟨_, e⟩
  · have h1 : es.toList.map (WideElems.rg Try.prog 3 (plainElem (H := Unit) Try.prog 9)) = (es.toList.map kvE).map (fun kv => (rgKV kv).getD (.bool false, .nil)) := by
      rw [List.map_map]; rfl
    unfold datI
    rw [h1, he, List.map_map]
    congr 2
    apply List.map_congr_left
    intro p hp
    show rdI p = ((rgKV (kvP p)).getD _)
    rw [rgKV_eq p (hg.2 p hp)]; rfl
theorem size_datI (m : IS) : Maps.size (datI m) = m.length := by
  show ((m.map rdI).foldr DataW.insert []).length = _
  rw [length_sorted]; simp
def mapEq (m1 m2 : IS) : Bool := decide (m1.length = m2.length) && m1.all (fun p => decide (lookI m2 p.1 = some p.2))
theorem rdI_inj {p : Int × ByteArray} {x : Int} {c : ByteArray} (h : rdI p = (Lit.int .i64 x, .lit (.string c.data.toList))) : p = (x, c) := by
  unfold rdI at h
  injection h with h1 h2
  injection h1 with _ h1
  injection h2 with h2
  injection h2 with h2
  refine Prod.ext h1 ?_
  apply ByteArray.ext
  exact Array.toList_inj.1 h2
theorem pw_uniq {α β : Type} (f : α → β) : ∀ (l : List α), l.Pairwise (fun a b => f a ≠ f b) → ∀ p ∈ l, ∀ q ∈ l, f p = f q → p = q := by
  intro l
  induction l with
  | nil => intro _ p hp; cases hp
  | cons a l ih =>
    intro h p hp q hq e
    rw [List.pairwise_cons] at h
    rcases List.mem_cons.1 hp with h1 | h1 <;> rcases List.mem_cons.1 hq with h2 | h2
    · rw [h1, h2]
    · rw [h1] at e; exact absurd e (h.1 q h2)
    · rw [h2] at e; exact absurd e.symm (h.1 p h1)
    · exact ih h.2 p h1 q h2 e
theorem strEq_yes {a b : ByteArray} (h : a = b) : (a.toList == b.toList) = true := by rw [h]; simp
theorem strEq_no {a b : ByteArray} (h : ¬ a = b) : (a.toList == b.toList) = false := by
  rw [beq_eq_false_iff_ne, Lib.toList_data, Lib.toList_data]
  exact fun e => h (ByteArray.ext (Array.toList_inj.1 e))
theorem zeroEm (w : World) : (zeroValue 9).run Try.prog w = .ok (.string ⟨#[]⟩) w := by kernel_rfl
theorem grown_map {w w' : World} {mb : Nat} {m : IS} {row : Option Nat} (h : MapAt w mb m) (hg : w.grownBy w' row) (hne : some mb ≠ row) : MapAt w' mb m := by
  obtain ⟨es, clk, hb, he⟩ := h
  exact ⟨es, clk, (hg.block mb (lt_of_heap hb) hne).trans hb, he⟩
set_option maxHeartbeats 4000000 in
set_option maxRecDepth 100000 in
theorem mapsEqual_c (w : World) (b1 b2 : Nat) (m1 m2 : IS) (h1 : MapAt w b1 m1) (h2 : MapAt w b2 m2) (g1 : Goods m1) (g2 : Goods m2) (nd : (m1.map (·.1)).Nodup) :
    Calls Try.prog 50 #[.map (some b1), .map (some b2)] w fun e w' => e = .returned (.bool (mapEq m1 m2)) ∧ w.grownBy w' none := by
  have o1 := mapAt_owns h1 g1
  have o2 := mapAt_owns h2 g2
  have l1 := fun ty => o1.len (t := 77) Try.underlying77 ty
  have l2 := fun ty => o2.len (t := 77) Try.underlying77 ty
  rw [size_datI] at l1 l2
  obtain ⟨es1, hes, hap, hkeys⟩ := o1.entries keyedI
  have hes' : (m1.map rdI).foldr DataW.insert [] = es1 := by injection hes
  have Hcame : Hid (∀ (x : Int) (c : ByteArray), (∀ zd, (datI m1).atKey (.int .i64 x) zd = .lit (.string c.data.toList)) → (x, c) ∈ m1) := fun x c hat => by
    rw [hes] at hat
    have := came_mem hap hkeys hat
    rw [← hes', mem_sorted] at this
    obtain ⟨p, hp, e⟩ := List.mem_map.1 this
    rw [← rdI_inj e]; exact hp
  have Hu : Hid (∀ p ∈ m1, ∀ q ∈ m1, p.1 = q.1 → p = q) := fun p hp q hq e => by
    have hnd : m1.Pairwise (fun a b => a.1 ≠ b.1) := by rwa [List.Nodup, List.pairwise_map] at nd
    exact pw_uniq (fun p : Int × ByteArray => p.1) m1 hnd p hp q hq e
  have Hhas : Hid (∀ p ∈ m1, Maps.has (datI m1) (.int .i64 p.1) = true) := fun p hp => by
    rw [hes]
    refine List.any_eq_true.2 ⟨rdI p, ?_, ?_⟩
    · rw [← hes', mem_sorted]; exact List.mem_map.2 ⟨p, hp, rfl⟩
    · show (Lit.int .i64 p.1).sameKey (Lit.int .i64 p.1) = true
      exact WideAt.sameKey_self (show WideAt.IsKeyLit (Lit.int .i64 p.1) from hkeys (rdI p) (by rw [← hes', mem_sorted]; exact List.mem_map.2 ⟨p, hp, rfl⟩))
  have H2 := Lib.hid h2
  have O1 := Lib.hid o1
  have HQ : Hid (mapEq m1 m2 = (decide (m1.length = m2.length) && m1.all (fun p => decide (lookI m2 p.1 = some p.2)))) := rfl
  generalize mapEq m1 m2 = res at *
  have hb1 := o1.lt
  have hb2 := o2.lt
  have hhas0 : Hid (∀ p ∈ m1, Maps.has (datI m1) (.int .i64 p.1) = false → lookI m2 p.1 = some p.2) := fun p hp h => by rw [Hhas.out p hp] at h; cases h
  have Hsz := Lib.hid (size_datI m1)
  generalize hD : datI m1 = D1 at *
  clear h1 h2 g1 g2 nd hes hap hkeys hes' o2 Hhas hD es1
  by_cases hsz : m1.length = m2.length
  · have hsb : ((m1.length : Int) != (m2.length : Int)) = false := by rw [hsz]; simp
    have Hszz := Lib.hid hsz
    clear hsz
    go_enter Try.func50, Try.ntmps50
    go_wp2_with (first
      | (at_range; refine wpList_range_own _ rfl _ 77 rfl 3 9 keyedI Try.underlying77 (plainElem Try.prog 9) b1 m1.length _ rfl o1 ?_; intro w0 hrg0 hg0 hs0)
      | go_in)
    clear o1 l1 l2
    have H20 := Lib.hid (grown_map H2.out hg0 (by simp))
    go_frame
    go_loopw [18] (fun _ wr => ∃ (left : Lit → Bool) (cnt : Nat), wr.ranges Try.prog 3 (plainElem Try.prog 9) b1 w.heap.size m1.length D1 left cnt ∧ MapAt wr b2 m2 ∧ w.grownBy wr none ∧ Hid (∀ p ∈ m1, left (.int .i64 p.1) = false → lookI m2 p.1 = some p.2))
      (fun _ wr => wr.rangeLeft b1 w.heap.size)
    case atStart => exact ⟨_, _, hrg0, H20.out, hg0, hhas0⟩
    case round =>
      obtain ⟨left, cnt, hrg, h2r, hgw, G⟩ := hrel
      have H2r := Lib.hid h2r
      clear h2r
      go_wp2_with (first
        | (at_next; refine wpList_next_ranges_is _ rfl _ rfl 3 9 .i64 keyedI Try.underlying3 Try.underlying9 b1 w.heap.size m1.length _ _ _ rfl hrg ?_ ?_)
        | go_in)
      · intro _ hl0
        go_wp2
        go_ret
        refine ⟨?_, hgw⟩
        rw [HQ.out, decide_eq_true Hszz.out, Bool.true_and]
        rw [show (m1.all fun p => decide (lookI m2 p.1 = some p.2)) = true from List.all_eq_true.2 fun p hp => by simpa using G.out p hp (hl0 _)]
        rfl
      · intro x c w1 cnt1 hwx hcs hlx hat hrg1 hlt hg1 hs1 hen
        have hmem := Lib.hid (Hcame.out x c hat)
        have hgw1 : w.grownBy w1 none := hgw.andThen hg1 (fun j hj => by cases hj; exact Or.inl (Nat.le_refl _))
        have h2w1 := Lib.hid (grown_map H2r.out hg1 (fun e => by have := Option.some.inj e; omega))
        clear hat
        have hlk := run_lookup_is (P := Try.prog) (E := 9) Try.underlying77 Try.underlying3 zeroEm h2w1.out x
        have Hbad : Hid (¬ lookI m2 x = some c → res = false) := fun hno => by
          rw [HQ.out, List.all_eq_false.2 ⟨(x, c), hmem.out, by simpa using hno⟩, Bool.and_false]
        have Hgood : Hid (lookI m2 x = some c → ∀ p ∈ m1, (left (.int .i64 p.1) && !(Lit.int .i64 p.1).sameKey (.int .i64 x)) = false → lookI m2 p.1 = some p.2) := fun hyes p hp h => by
          cases hl : left (.int .i64 p.1)
          · exact G.out p hp hl
          · rw [hl] at h
            have hs : (Lit.int .i64 p.1).sameKey (.int .i64 x) = true := by simpa using h
            have e1 := WideAt.sameKey_eq hs
            have e2 : p.1 = x := by injection e1
            have := Hu.out p hp (x, c) hmem.out e2
            rw [this]; exact hyes
        cases hlv : lookI m2 x with
        | none =>
          rw [hlv] at hlk
          have hrf := Hbad.out (by rw [hlv]; simp)
          simp only [Option.getD_none, Option.isSome_none] at hlk
          clear Hbad Hgood hlv
          go_wp2
          go_ret
          exact ⟨by rw [hrf]; rfl, hgw1⟩
        | some y =>
          rw [hlv] at hlk
          simp only [Option.getD_some, Option.isSome_some] at hlk
          by_cases hxy : c = y
          · have hgd := Lib.hid (Hgood.out (by rw [hlv, hxy]))
            have hne := strEq_yes hxy
            clear Hbad Hgood hlv hxy
            go_wp2
            go_roundw
            case rel => exact ⟨_, cnt1, hrg1, h2w1.out, hgw1, hgd⟩
            case measure => rw [hrg1.left_eq, hrg.left_eq]; exact hlt
          · have hrf := Hbad.out (by rw [hlv]; intro h; exact hxy (Option.some.inj h).symm)
            have hne := strEq_no hxy
            clear Hbad Hgood hlv hxy
            go_wp2
            go_ret
            exact ⟨by rw [hrf]; rfl, hgw1⟩
  · have hsb : ((m1.length : Int) != (m2.length : Int)) = true := by rw [bne_iff_ne]; intro h; exact hsz (by exact_mod_cast h)
    go_enter Try.func50, Try.ntmps50
    go_wp2
    go_ret
    exact ⟨by rw [HQ.out, decide_eq_false hsz]; rfl, World.grownBy.refl _ _⟩
end Go.Proofs.Ytombldjaipcloaa
