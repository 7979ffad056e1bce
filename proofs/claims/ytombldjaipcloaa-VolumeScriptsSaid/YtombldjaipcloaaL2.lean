/- For any number and operations the statement VolumeScripts returns true. -/
import Derived.Test.YtombldjaipcloaaQ
import Derived.Test.YtombldjaipcloaaSv
set_option linter.unusedVariables false
set_option linter.unusedSimpArgs false
namespace Go.Proofs.Ytombldjaipcloaa
open Go.RowKit
theorem infoB : (Try.prog.info? 5).map (fun i => (i.zero, i.size, i.bytes)) = some (some (.int .u8 0), 1, 1) := by kernel_rfl
/-- A row of bytes of the call's own. -/
def ByH (o : Value) (zs : List Nat) : HP := fun w F => w.ownsRow 0 5 1 o zs.length (zs.map fun z : Nat => Value.int .u8 (z : Int)) ∧ F = o.ownBlock.toList
theorem byH_stab (o : Value) (zs : List Nat) : Stab (ByH o zs) where
  keep := by
    rintro w w' F G ⟨h, rfl⟩ hk hd
    exact ⟨own_keep h hk (fun g hg => hd g (by simp [hg])), rfl⟩
  lt := by
    rintro w F ⟨h, rfl⟩ x hx
    obtain ⟨cur, h1⟩ := own_ty h (g := x) (by simpa using hx)
    exact lt_of_heap h1
theorem byH_row {w : World} {o : Value} {zs : List Nat} (h : w.ownsRow 0 5 1 o zs.length (zs.map fun z : Nat => Value.int .u8 (z : Int))) (hz : ∀ z ∈ zs, z ≤ 255) : ByteRow w o zs := by
  by_cases h0 : zs = []
  · subst h0
    obtain ⟨po, pc, hv⟩ := own_form h
    exact .inl ⟨po, pc, hv, rfl⟩
  · obtain ⟨g, cap, hv, hc, _, _⟩ := own_cells h (List.length_pos_iff.2 h0)
    refine .inr ⟨g, 0, cap, hv, fun i hi => ⟨?_, hz _ (List.getElem_mem hi)⟩⟩
    rw [Nat.zero_add, hc i (by omega)]
    simp [List.getElem?_eq_getElem hi]
def scr (v : Vol) (zs : List Nat) : Vol := vStart { v with down := true } zs
theorem scr_law {v : Vol} {d : Dk} (hc : Corr v d) (zs : List Nat) : (scr v zs).pend = [] ∧ (scr v zs).down = false ∧ (scr v zs).sectors = v.sectors ∧
    ((∀ j, j < v.pend.length → vChoice zs j = 15) → ∀ i (h : i < d.dur.length), vDur (scr v zs) i = dCont d i) ∧ ((∀ j, vChoice zs j = 0) → ∀ i (h : i < d.dur.length), vDur (scr v zs) i = d.dur[i]) := by
  have hz : ∀ k : Int, 0 ≤ k → k < ({ v with down := true } : Vol).sectors → (vDur { v with down := true } k).size = 128 := by
    intro k h0 h1
    have h1 : k < v.sectors := h1
    have := hc.len
    obtain ⟨m, rfl⟩ : ∃ m : Nat, k = m := ⟨k.toNat, by omega⟩
    have hm : m < d.dur.length := by omega
    show (vDur v m).size = 128
    rw [hc.dur m hm]
    exact hc.sz _ (List.getElem_mem hm)
  unfold scr vStart
  rw [if_pos rfl]
  refine ⟨rfl, rfl, (vStartL_rest zs _ _ _).2, fun h i hi => ?_, fun h i hi => ?_⟩
  · show vDur (vStartL zs { v with down := true } 0 v.pend) i = _
    rw [startL_all zs v.pend { v with down := true } 0 hc.keys hz hc.psz (fun j _ h2 => h j (by omega)), (flush_law v.pend { v with down := true } hc.keys).2.1]
    rw [dCont_eq, hc.pend, List.getElem?_eq_getElem hi]
    show dC v.pend i (vDur v i) = _
    rw [hc.dur i hi]; rfl
  · show vDur (vStartL zs { v with down := true } 0 v.pend) i = _
    rw [startL_none zs v.pend { v with down := true } 0 hc.keys hz hc.psz h]
    exact hc.dur i hi
theorem own0_dk2 {w0 w : World} {A : HP} {db : Nat} {d : Dk} (h : Own0 w0 (Sep A (DkH db d)) w) : ∃ dv pv, DkAt w db dv pv d := by
  obtain ⟨F, ⟨F3, F4, _, ⟨dv, pv, hd, _⟩, _⟩, _⟩ := h
  exact ⟨dv, pv, hd⟩
theorem own0_row {w0 w : World} {A : HP} {o : Value} {zs : List Nat} (h : Own0 w0 (Sep A (ByH o zs)) w) : w.ownsRow 0 5 1 o zs.length (zs.map fun z : Nat => Value.int .u8 (z : Int)) := by
  obtain ⟨F, ⟨F1, F2, _, h2, _⟩, _⟩ := h; exact h2.1
theorem read_flat2 {v : Vol} (h1 : v.pend = []) (h2 : v.down = false) (i : Nat) (h3 : (i : Int) < v.sectors) : vRead v i = (vDur v i, 0) := by
  unfold vRead
  rw [if_neg (by rw [h2]; simp), if_neg (by omega), h1]
  rfl
set_option maxRecDepth 100000 in
set_option maxHeartbeats 4000000 in
theorem scripts (n0 : Int) (sv : Value) (os : List OpV) (kp : Bool) (hn : 0 ≤ n0 ∧ n0 ≤ 255) (w : World) (hos : OpsAt w sv os) :
    Calls Try.prog 4 #[.int .u8 n0, sv, .bool kp] w fun e w' => e = .returned (.bool true) ∧ Below w.heap.size w w' := by
  obtain ⟨so, sc, rfl, hlen⟩ := opsAt_slice hos
  have Hos := Lib.hid hos
  unfold maxLen at hlen
  obtain ⟨n, hn'⟩ : ∃ n : Nat, 1 + n0 % 8 = n := ⟨(1 + n0 % 8).toNat, by omega⟩
  have HS := fun w => sectors_q n0 hn.1 hn.2 w
  rw [hn'] at HS
  have Hs := Lib.hid HS
  have hn3 : 1 ≤ n := by omega
  have hn4 : n ≤ 8 := by omega
  clear HS hn' hn
  clear hos
  go_enter Try.func4, Try.ntmps4
  go_wp2_with fail
  refine (Hs.out _).mono ?_
  rintro e w1 ⟨rfl, rfl⟩
  go_wp2_with fail
  refine (new_o n w (by omega) (by omega)).mono ?_
  rintro e w1 ⟨rfl, hv1, hk1⟩
  have O1 := Lib.hid (Own0.first (w0 := w) hv1 (by simp) hk1)
  clear hv1 hk1
  generalize w.heap.size + 1 = b at *
  generalize hmb : w.heap.size = mb at *
  have Hmb := Lib.hid hmb
  clear hmb
  go_wp2_with fail
  refine (known_c w1).mono ?_
  rintro e w2 ⟨rfl, hb2⟩
  have O2 := Lib.hid (keepOwn (volH_stab _ _ _) O1.out hb2)
  clear hb2 O1
  go_wp2_with fail
  refine (Hs.out _).mono ?_
  rintro e w3 ⟨rfl, rfl⟩
  go_wp2_with fail
  refine (blank_c n (by omega) w2).mono ?_
  rintro e w3 ⟨rfl, ⟨F, hF, hF2⟩, hk3⟩
  have O3 : Hid (Perf w b mb w2.heap.size 0 n w3) := ⟨vNew n, dNew n, corr_new n, Nat.zero_le _, List.length_replicate, O2.out.new (volH_stab _ _ _) hk3 hF hF2⟩
  clear hF hF2 hk3 O2
  generalize w2.heap.size = db at *
  go_wp2_with fail
  go_loopw [10] (fun i wr => ∃ k : Nat, k ≤ os.length ∧ k ≤ 40 ∧ i = .int .i64 k ∧ Perf w b mb db k n wr) (fun i _ => 40 - (intOf i).toNat)
  case atStart => exact ⟨0, by omega, by omega, rfl, O3.out⟩
  case round =>
    obtain ⟨k, hk, hk40, rfl, ho⟩ := hrel
    have Ho := Lib.hid ho
    by_cases hlt : k < os.length ∧ k < 40
    · obtain ⟨hlt, h40⟩ := hlt
      have hd1 : decide ((k : Int) < os.length) = true := by simp; omega
      obtain ⟨lb, lo, kd, s, d, so', sl', sc', zs', rfl, hlb, hok, hokk, e0, e1, e2, e3⟩ := opsAt_elem Hos.out ho.below k hlt
      rw [hok] at hokk
      have hlbr : lb < wr.heap.size := Nat.lt_of_lt_of_le hlb ho.below.size
      have Hc := Lib.hid (perform_c w wr b mb db k n _ so' sl' sc' rfl hokk (by omega) (by omega) ho)
      dsimp only at Hc
      clear hok hokk ho
      go_wp2_with fail
      refine Hc.out.mono ?_
      rintro e w4 ⟨rfl, ho4⟩
      have Ho4 := Lib.hid ho4
      clear ho4 Hc e0 e1 e2 e3
      go_wp2_with fail
      go_roundw
      case rel => exact ⟨k + 1, by omega, by omega, by go_num, Ho4.out⟩
      case measure => simp [intOf]; omega
    · have hx : (decide ((k : Int) < os.length) = false ∧ os.length ≤ k) ∨ (decide ((k : Int) < os.length) = true ∧ 40 ≤ k) := by
        by_cases h : k < os.length
        · right; exact ⟨by simp; omega, by omega⟩
        · left; exact ⟨by simp; omega, by omega⟩
      obtain ⟨v, d, hcorr, hvp, hdl, hv0⟩ := ho
      have hsec : v.sectors = n := by rw [hcorr.len, hdl]
      have hx : (decide ((k : Int) < os.length) = false ∧ os.length ≤ k) ∨ (decide ((k : Int) < os.length) = true ∧ 40 ≤ k) := by
        by_cases h : k < os.length
        · right; exact ⟨by simp; omega, by omega⟩
        · left; exact ⟨by simp; omega, by omega⟩
      have Hv0 := Lib.hid hv0
      have Hsec := Lib.hid hsec
      have Hpr : Hid (∀ p ∈ v.pend, 0 ≤ p.1 ∧ p.1 < v.sectors) := fun p hp => (hcorr.psz p hp).2
      have Hvp : Hid (v.pend.length ≤ 4096) := by show _ ≤ _; omega
      have Hvp40 : Hid (v.pend.length ≤ 40) := by show _ ≤ _; omega
      have Hcorr := Lib.hid hcorr
      have Hdl := Lib.hid hdl
      clear hcorr hvp hdl hv0 hsec Ho hlt
      rcases hx with ⟨hd1, hge⟩ | ⟨hd1, hge⟩
      · skip
        cases kp
        · go_wp2_with fail
          refine wp_loop_rounds 1 ?_
          rw [rounds_succ]
          go_wp2_with fail
          obtain ⟨zs, hzs⟩ : ∃ zs : List Nat, zs = [] := ⟨_, rfl⟩
          have Hr : Hid (Own0 w (Sep (Sep (VolH b mb v) (DkH db d)) (ByH (.slice none 0 0) zs)) wr) := by
            subst hzs
            exact Hv0.out.new ((volH_stab _ _ _).sep (dkH_stab _ _)) (Keep.refl _ _) (G := []) ⟨World.ownsRow_nil _ _ _ _, rfl⟩ (by simp)
          have Hzl : Hid (zs.length ≤ 50) := by subst hzs; show ([] : List Nat).length ≤ 50; simp
          have Hz255 : Hid (∀ z ∈ zs, z ≤ 255) := by subst hzs; intro z hz; cases hz
          have Hl := Lib.hid (scr_law Hcorr.out zs)
          have Hwant : Hid (∀ i : Nat, i < n → vDur (scr v zs) i = (d.dur[i]?).getD ⟨#[]⟩) := fun i hi => by
            have hi' : i < d.dur.length := by rw [Hdl.out]; exact hi
            rw [Hl.out.2.2.2.2 (fun j => by subst hzs; rfl) i hi', List.getElem?_eq_getElem hi']; rfl
          clear hzs
          have Hpr' : Hid (∀ p ∈ ({ v with down := true } : Vol).pend, 0 ≤ p.1 ∧ p.1 < ({ v with down := true } : Vol).sectors) := Hpr.out
          refine (((crash_m b mb v).L (dkH_stab db d)).L (byH_stab _ _) |>.own Hr.out).mono ?_
          rintro e w5 ⟨rfl, ho5⟩
          have Ho5 := Lib.hid ho5
          have hms : MetAt Try.prog 22 #[.pointer (some ⟨b, 0, none⟩), .slice none 0 0] (.tuple #[]) (VolH b mb { v with down := true }) (VolH b mb (scr v zs)) w5 w.heap.size := fun F hF _ =>
            start_m b mb { v with down := true } _ zs Hpr.out (by have := Hzl.out; omega) Hvp.out _ F hF (byH_row (own0_row ho5) Hz255.out)
          have Hms := Lib.hid hms
          clear hms ho5
          go_wp2_with fail
          refine ((Hms.out.L (dkH_stab db d)).L (byH_stab _ _) |>.own Ho5.out).mono ?_
          rintro e w6 ⟨rfl, ho6⟩
          have Ho6 := Lib.hid ho6.drop
          clear ho6 Hms Ho5 Hr
          have Hrd : Hid (∀ i : Nat, i < n → vRead (scr v zs) i = ((fun i : Nat => (d.dur[i]?).getD ⟨#[]⟩) i, 0)) := fun i hi => by rw [read_flat2 Hl.out.1 Hl.out.2.1 i (by rw [Hl.out.2.2.1, Hsec.out]; omega), Hwant.out i hi]
          have Hsp : Hid ((scr v zs).pend = []) := Hl.out.1
          clear Hl Hwant
          generalize scr v zs = vs at *
          go_wp2_with fail
          go_loopw [13] (fun i wr => ∃ j : Nat, j ≤ n ∧ i = .int .i64 j ∧ Own0 w (Sep (VolH b mb vs) (DkH db d)) wr) (fun i _ => n - (intOf i).toNat)
          case atStart => exact ⟨0, by omega, rfl, Ho6.out⟩
          case round =>
            obtain ⟨j, hj, rfl, hoj⟩ := hrel
            obtain ⟨dv, pv, hd⟩ := own0_dk2 hoj
            obtain ⟨po, pc, rfl⟩ := own_form hd.dur
            have hc := cell_of hd.blk
            simp only [dcells] at hc
            have Hoj := Lib.hid hoj
            have Hd := Lib.hid hd
            rw [Hdl.out] at hc
            clear hoj hd
            by_cases hjl : j < n
            · obtain ⟨g, rfl, hgc, hgl, _⟩ := Hd.out.durElem j (by rw [Hdl.out]; exact hjl)
              have hrd := read_m b mb vs j (by rw [Hsp.out]; simp)
              rw [Hrd.out j hjl] at hrd
              have Hrd1 := Lib.hid hrd
              clear hrd
              generalize (d.dur[j]?).getD ⟨#[]⟩ = x at *
              have hxx : (x.toList == x.toList) = true := beq_self_eq_true _
              go_wp2_with fail
              refine (Hrd1.out.L (dkH_stab db d) |>.own Hoj.out).mono ?_
              rintro e wc ⟨rfl, hoc⟩
              have Hoc := Lib.hid hoc
              clear hoc Hrd1
              go_wp2_with fail
              go_roundw
              case rel => exact ⟨j + 1, by omega, by go_num, Hoc.out⟩
              case measure => simp [intOf]; omega
            · obtain rfl : j = n := by omega
              go_wp2_with fail
              go_returns
              exact ⟨rfl, Hoj.out.below⟩
        · obtain ⟨i0, hi, hz0, hz1, hz2⟩ := info_parts infoB
          have Hi := Lib.hid (And.intro hi (And.intro hz0 (And.intro hz1 hz2)))
          clear hi hz0 hz1 hz2
          go_wp2_with fail
          go_loopw [11, 12] (fun o i wr => ∃ k : Nat, k ≤ 50 ∧ i = .int .i64 k ∧ Own0 w (Sep (Sep (VolH b mb v) (DkH db d)) (ByH o (List.replicate k 15))) wr) (fun _ i _ => 50 - (intOf i).toNat)
          case atStart => exact ⟨0, by omega, rfl, Hv0.out.new ((volH_stab _ _ _).sep (dkH_stab _ _)) (Keep.refl _ _) (G := []) ⟨World.ownsRow_nil _ _ _ _, rfl⟩ (by simp)⟩
          case round =>
            obtain ⟨m, hm, rfl, hor⟩ := hrel
            have hown := own0_row hor
            rw [List.length_replicate] at hown
            obtain ⟨po, pc, rfl⟩ := own_form hown
            have Hown := Lib.hid hown
            have Hor := Lib.hid hor
            clear hown hor
            by_cases hlt : m < 50
            · go_wp2_with (at_builtin; refine wpList_append2 _ rfl _ _ 36 rfl 5 i0 _ 1 1 Try.underlying36 Hi.out.1 Hi.out.2.1 Hi.out.2.2.1 Hi.out.2.2.2 rfl (by decide) _ _ _ rfl (Hown.out.alloc _) ⟨wr.heap.size, 0, none⟩ 1 1 [.int .u8 15] rfl rfl (one_news _ _ _) ?c2 (by decide) ?c3 ?c4 ?_)
              case c2 => intro u hu; simp at hu; subst hu; rfl
              case c3 => unfold maxLen; omega
              case c4 => omega
              intro g cap wa hoa hga hfa
              have hka : Keep (Value.slice po m pc).ownBlock.toList wr wa := (Keep.alloc _ _ _).trans (Keep.grown hga (fun k hk => by rw [hk]; simp)) (fun x hx => .inl hx)
              have hgr : Own0 w (Sep (Sep (VolH b mb v) (DkH db d)) (ByH (.slice (some ⟨g, 0, none⟩) (m + 1) cap) (List.replicate (m + 1) 15))) wa :=
                Hor.out.step fun F hF => To.right ((volH_stab _ _ _).sep (dkH_stab _ _)) hF fun F2 h2 => by
                  obtain ⟨h2, rfl⟩ := h2
                  refine ⟨_, ⟨by rw [List.length_replicate, List.replicate_succ', List.map_append, List.map_replicate]; exact hoa, rfl⟩, hka, fun y hy => ?_⟩
                  simp [Value.ownBlock] at hy
                  subst hy
                  rcases hfa with h | h
                  · left; rw [← h]; simp
                  · exact .inr (Nat.le_of_succ_le h)
              have Hgr := Lib.hid hgr
              clear hgr hka hfa hga hoa
              go_wp2_with fail
              go_roundw
              case rel => exact ⟨m + 1, by omega, by go_num, Hgr.out⟩
              case measure => simp [intOf]; omega
            · obtain rfl : m = 50 := by omega
              obtain ⟨zs, hzs⟩ : ∃ zs : List Nat, zs = List.replicate 50 15 := ⟨_, rfl⟩
              have Hr : Hid (Own0 w (Sep (Sep (VolH b mb v) (DkH db d)) (ByH (.slice po 50 pc) zs)) wr) := by rw [hzs]; exact Hor.out
              have Hzl : Hid (zs.length ≤ 50) := by rw [hzs]; show (List.replicate 50 15).length ≤ 50; simp
              have Hz255 : Hid (∀ z ∈ zs, z ≤ 255) := by rw [hzs]; intro z hz; have := List.eq_of_mem_replicate hz; omega
              have Hl := Lib.hid (scr_law Hcorr.out zs)
              have Hwant : Hid (∀ i : Nat, i < n → vDur (scr v zs) i = dCont d i) := fun i hi => by
                have hi' : i < d.dur.length := by rw [Hdl.out]; exact hi
                refine Hl.out.2.2.2.1 (fun j hj => ?_) i hi'
                have := Hvp40.out
                rw [hzs]; unfold vChoice; rw [List.getElem?_replicate, if_pos (by omega)]; rfl
              clear hzs Hown Hor
              go_wp2_with fail
              have Hpr' : Hid (∀ p ∈ ({ v with down := true } : Vol).pend, 0 ≤ p.1 ∧ p.1 < ({ v with down := true } : Vol).sectors) := Hpr.out
              refine (((crash_m b mb v).L (dkH_stab db d)).L (byH_stab _ _) |>.own Hr.out).mono ?_
              rintro e w5 ⟨rfl, ho5⟩
              have Ho5 := Lib.hid ho5
              have hms : MetAt Try.prog 22 #[.pointer (some ⟨b, 0, none⟩), .slice po 50 pc] (.tuple #[]) (VolH b mb { v with down := true }) (VolH b mb (scr v zs)) w5 w.heap.size := fun F hF _ =>
                start_m b mb { v with down := true } _ zs Hpr.out (by have := Hzl.out; omega) Hvp.out _ F hF (byH_row (own0_row ho5) Hz255.out)
              have Hms := Lib.hid hms
              clear hms ho5
              go_wp2_with fail
              refine ((Hms.out.L (dkH_stab db d)).L (byH_stab _ _) |>.own Ho5.out).mono ?_
              rintro e w6 ⟨rfl, ho6⟩
              have Ho6 := Lib.hid ho6.drop
              clear ho6 Hms Ho5 Hr
              have Hrd : Hid (∀ i : Nat, i < n → vRead (scr v zs) i = ((fun i : Nat => dCont d i) i, 0)) := fun i hi => by rw [read_flat2 Hl.out.1 Hl.out.2.1 i (by rw [Hl.out.2.2.1, Hsec.out]; omega), Hwant.out i hi]
              have Hsp : Hid ((scr v zs).pend = []) := Hl.out.1
              clear Hl Hwant
              generalize scr v zs = vs at *
              go_wp2_with fail
              have Hl3 : Hid (d.pend.length ≤ 4096) := by rw [Hcorr.out.pend]; exact Hvp.out
              clear hm hlt
              go_loopw [13] (fun i wr => ∃ j : Nat, j ≤ n ∧ i = .int .i64 j ∧ Own0 w (Sep (VolH b mb vs) (DkH db d)) wr) (fun i _ => n - (intOf i).toNat)
              case atStart => exact ⟨0, by omega, rfl, Ho6.out⟩
              case round =>
                obtain ⟨j, hj, rfl, hoj⟩ := hrel
                obtain ⟨dv, pv, hd⟩ := own0_dk2 hoj
                obtain ⟨po', pc', rfl⟩ := own_form hd.dur
                have hc := cell_of hd.blk
                simp only [dcells] at hc
                have Hoj := Lib.hid hoj
                have Hd := Lib.hid hd
                rw [Hdl.out] at hc
                clear hoj hd
                by_cases hjl : j < n
                · obtain ⟨g, rfl, hgc, hgl, _⟩ := Hd.out.durElem j (by rw [Hdl.out]; exact hjl)
                  have hrd := read_m b mb vs j (by rw [Hsp.out]; simp)
                  rw [Hrd.out j hjl] at hrd
                  have Hrd1 := Lib.hid hrd
                  have Hct := Lib.hid (content_c wr db _ _ d j (by rw [Hdl.out]; exact hjl) Hl3.out (by rw [Hdl.out]; omega) Hd.out)
                  clear hrd
                  dsimp only at Hrd1
                  generalize dCont d j = x at *
                  have hxx : (x.toList == x.toList) = true := beq_self_eq_true _
                  generalize (d.dur[j]?).getD ⟨#[]⟩ = y at *
                  go_wp2_with fail
                  refine Hct.out.mono ?_
                  rintro e wb ⟨rfl, rfl⟩
                  go_wp2_with fail
                  refine (Hrd1.out.L (dkH_stab db d) |>.own Hoj.out).mono ?_
                  rintro e wc ⟨rfl, hoc⟩
                  have Hoc := Lib.hid hoc
                  clear hoc Hrd1 Hct
                  go_wp2_with fail
                  go_roundw
                  case rel => exact ⟨j + 1, by omega, by go_num, Hoc.out⟩
                  case measure => simp [intOf]; omega
                · obtain rfl : j = n := by omega
                  go_wp2_with fail
                  go_returns
                  exact ⟨rfl, Hoj.out.below⟩
      · have hlk : k < os.length := by simpa using hd1
        cases kp
        · go_wp2_with fail
          refine wp_loop_rounds 1 ?_
          rw [rounds_succ]
          go_wp2_with fail
          obtain ⟨zs, hzs⟩ : ∃ zs : List Nat, zs = [] := ⟨_, rfl⟩
          have Hr : Hid (Own0 w (Sep (Sep (VolH b mb v) (DkH db d)) (ByH (.slice none 0 0) zs)) wr) := by
            subst hzs
            exact Hv0.out.new ((volH_stab _ _ _).sep (dkH_stab _ _)) (Keep.refl _ _) (G := []) ⟨World.ownsRow_nil _ _ _ _, rfl⟩ (by simp)
          have Hzl : Hid (zs.length ≤ 50) := by subst hzs; show ([] : List Nat).length ≤ 50; simp
          have Hz255 : Hid (∀ z ∈ zs, z ≤ 255) := by subst hzs; intro z hz; cases hz
          have Hl := Lib.hid (scr_law Hcorr.out zs)
          have Hwant : Hid (∀ i : Nat, i < n → vDur (scr v zs) i = (d.dur[i]?).getD ⟨#[]⟩) := fun i hi => by
            have hi' : i < d.dur.length := by rw [Hdl.out]; exact hi
            rw [Hl.out.2.2.2.2 (fun j => by subst hzs; rfl) i hi', List.getElem?_eq_getElem hi']; rfl
          clear hzs
          have Hpr' : Hid (∀ p ∈ ({ v with down := true } : Vol).pend, 0 ≤ p.1 ∧ p.1 < ({ v with down := true } : Vol).sectors) := Hpr.out
          refine (((crash_m b mb v).L (dkH_stab db d)).L (byH_stab _ _) |>.own Hr.out).mono ?_
          rintro e w5 ⟨rfl, ho5⟩
          have Ho5 := Lib.hid ho5
          have hms : MetAt Try.prog 22 #[.pointer (some ⟨b, 0, none⟩), .slice none 0 0] (.tuple #[]) (VolH b mb { v with down := true }) (VolH b mb (scr v zs)) w5 w.heap.size := fun F hF _ =>
            start_m b mb { v with down := true } _ zs Hpr.out (by have := Hzl.out; omega) Hvp.out _ F hF (byH_row (own0_row ho5) Hz255.out)
          have Hms := Lib.hid hms
          clear hms ho5
          go_wp2_with fail
          refine ((Hms.out.L (dkH_stab db d)).L (byH_stab _ _) |>.own Ho5.out).mono ?_
          rintro e w6 ⟨rfl, ho6⟩
          have Ho6 := Lib.hid ho6.drop
          clear ho6 Hms Ho5 Hr
          have Hrd : Hid (∀ i : Nat, i < n → vRead (scr v zs) i = ((fun i : Nat => (d.dur[i]?).getD ⟨#[]⟩) i, 0)) := fun i hi => by rw [read_flat2 Hl.out.1 Hl.out.2.1 i (by rw [Hl.out.2.2.1, Hsec.out]; omega), Hwant.out i hi]
          have Hsp : Hid ((scr v zs).pend = []) := Hl.out.1
          clear Hl Hwant
          generalize scr v zs = vs at *
          go_wp2_with fail
          go_loopw [13] (fun i wr => ∃ j : Nat, j ≤ n ∧ i = .int .i64 j ∧ Own0 w (Sep (VolH b mb vs) (DkH db d)) wr) (fun i _ => n - (intOf i).toNat)
          case atStart => exact ⟨0, by omega, rfl, Ho6.out⟩
          case round =>
            obtain ⟨j, hj, rfl, hoj⟩ := hrel
            obtain ⟨dv, pv, hd⟩ := own0_dk2 hoj
            obtain ⟨po, pc, rfl⟩ := own_form hd.dur
            have hc := cell_of hd.blk
            simp only [dcells] at hc
            have Hoj := Lib.hid hoj
            have Hd := Lib.hid hd
            rw [Hdl.out] at hc
            clear hoj hd
            by_cases hjl : j < n
            · obtain ⟨g, rfl, hgc, hgl, _⟩ := Hd.out.durElem j (by rw [Hdl.out]; exact hjl)
              have hrd := read_m b mb vs j (by rw [Hsp.out]; simp)
              rw [Hrd.out j hjl] at hrd
              have Hrd1 := Lib.hid hrd
              clear hrd
              generalize (d.dur[j]?).getD ⟨#[]⟩ = x at *
              have hxx : (x.toList == x.toList) = true := beq_self_eq_true _
              go_wp2_with fail
              refine (Hrd1.out.L (dkH_stab db d) |>.own Hoj.out).mono ?_
              rintro e wc ⟨rfl, hoc⟩
              have Hoc := Lib.hid hoc
              clear hoc Hrd1
              go_wp2_with fail
              go_roundw
              case rel => exact ⟨j + 1, by omega, by go_num, Hoc.out⟩
              case measure => simp [intOf]; omega
            · obtain rfl : j = n := by omega
              go_wp2_with fail
              go_returns
              exact ⟨rfl, Hoj.out.below⟩
        · obtain ⟨i0, hi, hz0, hz1, hz2⟩ := info_parts infoB
          have Hi := Lib.hid (And.intro hi (And.intro hz0 (And.intro hz1 hz2)))
          clear hi hz0 hz1 hz2
          go_wp2_with fail
          go_loopw [11, 12] (fun o i wr => ∃ k : Nat, k ≤ 50 ∧ i = .int .i64 k ∧ Own0 w (Sep (Sep (VolH b mb v) (DkH db d)) (ByH o (List.replicate k 15))) wr) (fun _ i _ => 50 - (intOf i).toNat)
          case atStart => exact ⟨0, by omega, rfl, Hv0.out.new ((volH_stab _ _ _).sep (dkH_stab _ _)) (Keep.refl _ _) (G := []) ⟨World.ownsRow_nil _ _ _ _, rfl⟩ (by simp)⟩
          case round =>
            obtain ⟨m, hm, rfl, hor⟩ := hrel
            have hown := own0_row hor
            rw [List.length_replicate] at hown
            obtain ⟨po, pc, rfl⟩ := own_form hown
            have Hown := Lib.hid hown
            have Hor := Lib.hid hor
            clear hown hor
            by_cases hlt : m < 50
            · go_wp2_with (at_builtin; refine wpList_append2 _ rfl _ _ 36 rfl 5 i0 _ 1 1 Try.underlying36 Hi.out.1 Hi.out.2.1 Hi.out.2.2.1 Hi.out.2.2.2 rfl (by decide) _ _ _ rfl (Hown.out.alloc _) ⟨wr.heap.size, 0, none⟩ 1 1 [.int .u8 15] rfl rfl (one_news _ _ _) ?c2 (by decide) ?c3 ?c4 ?_)
              case c2 => intro u hu; simp at hu; subst hu; rfl
              case c3 => unfold maxLen; omega
              case c4 => omega
              intro g cap wa hoa hga hfa
              have hka : Keep (Value.slice po m pc).ownBlock.toList wr wa := (Keep.alloc _ _ _).trans (Keep.grown hga (fun k hk => by rw [hk]; simp)) (fun x hx => .inl hx)
              have hgr : Own0 w (Sep (Sep (VolH b mb v) (DkH db d)) (ByH (.slice (some ⟨g, 0, none⟩) (m + 1) cap) (List.replicate (m + 1) 15))) wa :=
                Hor.out.step fun F hF => To.right ((volH_stab _ _ _).sep (dkH_stab _ _)) hF fun F2 h2 => by
                  obtain ⟨h2, rfl⟩ := h2
                  refine ⟨_, ⟨by rw [List.length_replicate, List.replicate_succ', List.map_append, List.map_replicate]; exact hoa, rfl⟩, hka, fun y hy => ?_⟩
                  simp [Value.ownBlock] at hy
                  subst hy
                  rcases hfa with h | h
                  · left; rw [← h]; simp
                  · exact .inr (Nat.le_of_succ_le h)
              have Hgr := Lib.hid hgr
              clear hgr hka hfa hga hoa
              go_wp2_with fail
              go_roundw
              case rel => exact ⟨m + 1, by omega, by go_num, Hgr.out⟩
              case measure => simp [intOf]; omega
            · obtain rfl : m = 50 := by omega
              obtain ⟨zs, hzs⟩ : ∃ zs : List Nat, zs = List.replicate 50 15 := ⟨_, rfl⟩
              have Hr : Hid (Own0 w (Sep (Sep (VolH b mb v) (DkH db d)) (ByH (.slice po 50 pc) zs)) wr) := by rw [hzs]; exact Hor.out
              have Hzl : Hid (zs.length ≤ 50) := by rw [hzs]; show (List.replicate 50 15).length ≤ 50; simp
              have Hz255 : Hid (∀ z ∈ zs, z ≤ 255) := by rw [hzs]; intro z hz; have := List.eq_of_mem_replicate hz; omega
              have Hl := Lib.hid (scr_law Hcorr.out zs)
              have Hwant : Hid (∀ i : Nat, i < n → vDur (scr v zs) i = dCont d i) := fun i hi => by
                have hi' : i < d.dur.length := by rw [Hdl.out]; exact hi
                refine Hl.out.2.2.2.1 (fun j hj => ?_) i hi'
                have := Hvp40.out
                rw [hzs]; unfold vChoice; rw [List.getElem?_replicate, if_pos (by omega)]; rfl
              clear hzs Hown Hor
              go_wp2_with fail
              have Hpr' : Hid (∀ p ∈ ({ v with down := true } : Vol).pend, 0 ≤ p.1 ∧ p.1 < ({ v with down := true } : Vol).sectors) := Hpr.out
              refine (((crash_m b mb v).L (dkH_stab db d)).L (byH_stab _ _) |>.own Hr.out).mono ?_
              rintro e w5 ⟨rfl, ho5⟩
              have Ho5 := Lib.hid ho5
              have hms : MetAt Try.prog 22 #[.pointer (some ⟨b, 0, none⟩), .slice po 50 pc] (.tuple #[]) (VolH b mb { v with down := true }) (VolH b mb (scr v zs)) w5 w.heap.size := fun F hF _ =>
                start_m b mb { v with down := true } _ zs Hpr.out (by have := Hzl.out; omega) Hvp.out _ F hF (byH_row (own0_row ho5) Hz255.out)
              have Hms := Lib.hid hms
              clear hms ho5
              go_wp2_with fail
              refine ((Hms.out.L (dkH_stab db d)).L (byH_stab _ _) |>.own Ho5.out).mono ?_
              rintro e w6 ⟨rfl, ho6⟩
              have Ho6 := Lib.hid ho6.drop
              clear ho6 Hms Ho5 Hr
              have Hrd : Hid (∀ i : Nat, i < n → vRead (scr v zs) i = ((fun i : Nat => dCont d i) i, 0)) := fun i hi => by rw [read_flat2 Hl.out.1 Hl.out.2.1 i (by rw [Hl.out.2.2.1, Hsec.out]; omega), Hwant.out i hi]
              have Hsp : Hid ((scr v zs).pend = []) := Hl.out.1
              clear Hl Hwant
              generalize scr v zs = vs at *
              go_wp2_with fail
              have Hl3 : Hid (d.pend.length ≤ 4096) := by rw [Hcorr.out.pend]; exact Hvp.out
              clear hm hlt
              go_loopw [13] (fun i wr => ∃ j : Nat, j ≤ n ∧ i = .int .i64 j ∧ Own0 w (Sep (VolH b mb vs) (DkH db d)) wr) (fun i _ => n - (intOf i).toNat)
              case atStart => exact ⟨0, by omega, rfl, Ho6.out⟩
              case round =>
                obtain ⟨j, hj, rfl, hoj⟩ := hrel
                obtain ⟨dv, pv, hd⟩ := own0_dk2 hoj
                obtain ⟨po', pc', rfl⟩ := own_form hd.dur
                have hc := cell_of hd.blk
                simp only [dcells] at hc
                have Hoj := Lib.hid hoj
                have Hd := Lib.hid hd
                rw [Hdl.out] at hc
                clear hoj hd
                by_cases hjl : j < n
                · obtain ⟨g, rfl, hgc, hgl, _⟩ := Hd.out.durElem j (by rw [Hdl.out]; exact hjl)
                  have hrd := read_m b mb vs j (by rw [Hsp.out]; simp)
                  rw [Hrd.out j hjl] at hrd
                  have Hrd1 := Lib.hid hrd
                  have Hct := Lib.hid (content_c wr db _ _ d j (by rw [Hdl.out]; exact hjl) Hl3.out (by rw [Hdl.out]; omega) Hd.out)
                  clear hrd
                  dsimp only at Hrd1
                  generalize dCont d j = x at *
                  have hxx : (x.toList == x.toList) = true := beq_self_eq_true _
                  generalize (d.dur[j]?).getD ⟨#[]⟩ = y at *
                  go_wp2_with fail
                  refine Hct.out.mono ?_
                  rintro e wb ⟨rfl, rfl⟩
                  go_wp2_with fail
                  refine (Hrd1.out.L (dkH_stab db d) |>.own Hoj.out).mono ?_
                  rintro e wc ⟨rfl, hoc⟩
                  have Hoc := Lib.hid hoc
                  clear hoc Hrd1 Hct
                  go_wp2_with fail
                  go_roundw
                  case rel => exact ⟨j + 1, by omega, by go_num, Hoc.out⟩
                  case measure => simp [intOf]; omega
                · obtain rfl : j = n := by omega
                  go_wp2_with fail
                  go_returns
                  exact ⟨rfl, Hoj.out.below⟩
/-! ### frame -/
open Go.ChangeShapes Go.WideShapes Go.ChangeAt
open Go.ChangeMaps (open_string shut_string)
theorem volumeScripts_walk (a0 : Int) (w0 : (Lit.int .u8 a0).wf = true) (v1 : Value) (a2 : Bool) (w : World) (m1 : OpsArg w v1) :
    Calls Try.prog 4 #[.int .u8 a0, v1, .bool a2] w fun e w' => e = .returned (.bool true) ∧ Below w.heap.size w w' := by
  obtain ⟨os, h⟩ := m1
  exact scripts a0 v1 os a2 (Go.bounds_u8 w0) w h
theorem volumeScripts_own : ownKnob Try.prog.godebug = none := by kernel_rfl
theorem volumeScripts_laidOut : laidOutB Try.prog = true := by kernel_rfl
set_option maxRecDepth 100000 in
theorem volumeScripts_lifted (os : Os) (started : os.Started) (H : Type) (enc : TypeId × Value → H) :
    ReturnsInHanded {} Try.checked os 4 .any (Rows.volumeScriptsSpec.pre6 enc Try.prog Try.f4 Rows.volumeScriptsRow.domain false) (Rows.volumeScriptsSpec.post enc Try.prog Try.f4 false true false false) := by
  refine returnsInHanded_of_change (C := Try.checked) volumeScripts_own started (by kernel_rfl) Try.func4
    (ChangeSpec.witness6 (enc := enc) (C := Try.checked) false ⟨#[], #[.int .u8 0, .slice none 0 0, .bool false], []⟩ 8 (by kernel_rfl) (by kernel_rfl) (by kernel_rfl) (by kernel_rfl)) ?_
  intro W base args ds gs before hval0 hW hcnd _
  have hval : ∀ (j : Nat) t v, Try.f4.params[j]? = some t → args[j]? = some v → Value.okWide Try.prog W .any base t v := hval0
  have hW' := hW
  obtain ⟨p, q, hA0, hV, rfl, hfz, hnd⟩ := hW
  have hA : DataW.TrodAll enc Try.prog W 0 (fun _ => true) true Try.f4.params.toList args.toList ds p := hA0
  rw [Try.params4] at hA hval
  obtain ⟨v0, vs0, d0, ds0, p0, q0, hargs, rfl, rfl, h0, r0⟩ := trodAll_cons hA
  obtain ⟨v1, vs1, d1, ds1, p1, q1, rfl, rfl, rfl, h1, r1⟩ := trodAll_cons r0
  obtain ⟨v2, vs2, d2, ds2, p2, q2, rfl, rfl, rfl, h2, r2⟩ := trodAll_cons r1
  obtain ⟨rfl, rfl, rfl⟩ := trodAll_nil r2
  obtain rfl : args = #[v0, v1, v2] := by cases args; simp_all
  obtain ⟨rfl, rfl⟩ := trodVars_none hV
  have k0 := h0
  have lt0 : ∀ x ∈ p0, x.block < W.heap.size := by obtain ⟨m, hm⟩ := k0; exact DataW.trod_lt m _ _ _ hm
  have k1 := h1
  have lt1 : ∀ x ∈ p1, x.block < W.heap.size := by obtain ⟨m, hm⟩ := k1; exact DataW.trod_lt m _ _ _ hm
  have k2 := h2
  have lt2 : ∀ x ∈ p2, x.block < W.heap.size := by obtain ⟨m, hm⟩ := k2; exact DataW.trod_lt m _ _ _ hm
  obtain ⟨a0, rfl, rfl, rfl, w0⟩ := open_int Try.underlying5 (hval 0 5 v0 rfl rfl) h0
  have m1 : OpsArg W v1 := OpsArg_open (hval 1 26 v1 rfl rfl) h1
  obtain ⟨a2, rfl, rfl, rfl⟩ := open_bool Try.underlying4 (hval 2 4 v2 rfl rfl) h2
  clear hA0 hval0
  refine (volumeScripts_walk a0 w0 v1 a2 W m1).mono fun e W' ⟨he, bel⟩ => ?_
  subst he
  exact ⟨_, rfl, _, _, _, [], _, [], hW', trodAll_mk1 (shut_bool Try.underlying4 _), (trodAll_cons_mk (Below.trod volumeScripts_laidOut (by kernel_rfl) (of_decide_eq_true (by kernel_rfl)) k0 bel lt0) (trodAll_cons_mk (Below.trod volumeScripts_laidOut (by kernel_rfl) (of_decide_eq_true (by kernel_rfl)) k1 bel lt1) (trodAll_cons_mk (Below.trod volumeScripts_laidOut (by kernel_rfl) (of_decide_eq_true (by kernel_rfl)) k2 bel lt2) trodAll_mk0))), rfl, bel.frame _, fun h => by cases h⟩
theorem volumeScripts_over : Rows.volumeScriptsRow.holds Try.pinned (OpenSpec.ofChange Rows.volumeScriptsSpec) :=
  OpenClaim.holds_of_wide 4 Try.f4 rfl rfl rfl rfl rfl rfl rfl ⟨rfl, rfl, rfl, rfl, rfl⟩ rfl rfl rfl rfl rfl (by kernel_rfl) Try.func4 (by kernel_rfl)
    (of_decide_eq_true (by kernel_rfl)) (by unfold Func.isWrapper; first | (rw [if_pos (by decide +kernel)]; kernel_rfl) | (rw [if_neg (by decide +kernel)]; exact ⟨rfl, rfl⟩))
    (fun os started H enc _ => volumeScripts_lifted os started H enc)
/-- The statement. -/
theorem volumeScripts_proved : Rows.VolumeScriptsSaid := volumeScripts_over
#print axioms volumeScripts_proved
end Go.Proofs.Ytombldjaipcloaa
