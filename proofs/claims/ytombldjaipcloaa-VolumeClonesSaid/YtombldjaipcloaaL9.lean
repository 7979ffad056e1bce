/- For any number and operations the statement VolumeClones returns true. -/
import Derived.Test.YtombldjaipcloaaCe
set_option linter.unusedVariables false
set_option linter.unusedSimpArgs false
namespace Go.Proofs.Ytombldjaipcloaa
open Go.RowKit
def Emp : HP := fun w F => F = []
theorem emp_stab : Stab Emp where
  keep := by rintro w w' F G rfl _ _; rfl
  lt := by rintro w F rfl x hx; cases hx
theorem addEmp {w0 w : World} {A : HP} (h : Own0 w0 A w) : Own0 w0 (Sep A Emp) w := by
  obtain ⟨F, h1, h2, h3⟩ := h
  exact ⟨F ++ [], ⟨F, [], h1, rfl, by simp, rfl⟩, by simpa using h2, h3⟩
theorem PerfR.below {w0 : World} {R : HP} {b mb db N n : Nat} {w : World} (h : PerfR w0 R b mb db N n w) : Below w0.heap.size w0 w := by
  obtain ⟨v, d, _, _, _, h⟩ := h; exact h.below
theorem sep_two {w2 w3 : World} {A B : HP} (hA : Stab A) {F2 F3 : List Nat} (h2 : A w2 F2) (hk : Keep [] w2 w3) (h3 : B w3 F3) (hF : ∀ x ∈ F3, w2.heap.size ≤ x) : Sep A B w3 (F2 ++ F3) :=
  ⟨F2, F3, hA.keep h2 hk (by simp), h3, fun x hx hx3 => by have := hA.lt h2 x hx; have := hF x hx3; omega, rfl⟩
theorem four {w0 w : World} {b mb db b2 mb2 db2 : Nat} {v v0 : Vol} {d d0 : Dk} (h : Own0 w0 (Sep (Sep (VolH b mb v) (DkH db d)) (Sep (VolH b2 mb2 v0) (DkH db2 d0))) w) :
    ∃ pv dv qv pv2 dv2 qv2, VolAt w b mb pv v ∧ DkAt w db dv qv d ∧ VolAt w b2 mb2 pv2 v0 ∧ DkAt w db2 dv2 qv2 d0 := by
  obtain ⟨F, ⟨F1, F2, ⟨F3, F4, ⟨pv, hv, _⟩, ⟨dv, qv, hd, _⟩, _⟩, ⟨F5, F6, ⟨pv2, hv2, _⟩, ⟨dv2, qv2, hd2, _⟩, _⟩, _⟩, _⟩ := h
  exact ⟨pv, dv, qv, pv2, dv2, qv2, hv, hd, hv2, hd2⟩
theorem two {w0 w : World} {b mb db : Nat} {v : Vol} {d : Dk} {R : HP} (h : Own0 w0 (Sep (Sep (VolH b mb v) (DkH db d)) R) w) : ∃ pv dv qv, VolAt w b mb pv v ∧ DkAt w db dv qv d := by
  obtain ⟨F, ⟨F1, F2, ⟨F3, F4, ⟨pv, hv, _⟩, ⟨dv, qv, hd, _⟩, _⟩, _⟩, _⟩ := h
  exact ⟨pv, dv, qv, hv, hd⟩
set_option maxRecDepth 100000 in
set_option maxHeartbeats 8000000 in
theorem clones (n0 : Int) (sv sv2 : Value) (os os2 : List OpV) (hn : 0 ≤ n0 ∧ n0 ≤ 255) (w : World) (hos : OpsAt w sv os) (hos2 : OpsAt w sv2 os2) :
    Calls Try.prog 11 #[.int .u8 n0, sv, sv2] w fun e w' => e = .returned (.bool true) ∧ Below w.heap.size w w' := by
  obtain ⟨so, sc, rfl, hlen⟩ := opsAt_slice hos
  obtain ⟨so2, sc2, rfl, hlen2⟩ := opsAt_slice hos2
  have Hos := Lib.hid hos
  have Hos2 := Lib.hid hos2
  unfold maxLen at hlen hlen2
  obtain ⟨n, hn'⟩ : ∃ n : Nat, 1 + n0 % 8 = n := ⟨(1 + n0 % 8).toNat, by omega⟩
  have HS := fun w => sectors_q n0 hn.1 hn.2 w
  rw [hn'] at HS
  have Hs := Lib.hid HS
  have hn3 : 1 ≤ n := by omega
  have hn4 : n ≤ 8 := by omega
  clear HS hn' hn
  clear hos hos2
  go_enter Try.func11, Try.ntmps11
  go_wp2_with fail
  refine (Hs.out _).mono ?_
  rintro e w1 ⟨rfl, rfl⟩
  go_wp2_with fail
  refine (new_o n w (by omega) (by omega)).mono ?_
  rintro e w1 ⟨rfl, hv1, hk1⟩
  have O1 := Lib.hid (Own0.first (w0 := w) hv1 (by simp) hk1)
  clear hv1 hk1
  generalize w.heap.size + 1 = b at *
  generalize hmb : w.heap.size = mb at *
  have Hmb := Lib.hid hmb
  clear hmb
  go_wp2_with fail
  refine (known_c w1).mono ?_
  rintro e w2 ⟨rfl, hb2⟩
  have O2 := Lib.hid (keepOwn (volH_stab _ _ _) O1.out hb2)
  clear hb2 O1
  go_wp2_with fail
  refine (Hs.out _).mono ?_
  rintro e w3 ⟨rfl, rfl⟩
  go_wp2_with fail
  refine (blank_c n (by omega) w2).mono ?_
  rintro e w3 ⟨rfl, ⟨F, hF, hF2⟩, hk3⟩
  have O3 : Hid (PerfR w Emp b mb w2.heap.size 0 n w3) := ⟨vNew n, dNew n, corrN_new n, Nat.zero_le _, List.length_replicate, addEmp (O2.out.new (volH_stab _ _ _) hk3 hF hF2)⟩
  clear hF hF2 hk3 O2
  generalize w2.heap.size = db at *
  go_wp2_with fail
  go_loopw [10] (fun i wr => ∃ k : Nat, k ≤ os.length ∧ k ≤ 40 ∧ i = .int .i64 k ∧ PerfR w Emp b mb db k n wr) (fun i _ => 40 - (intOf i).toNat)
  case atStart => exact ⟨0, by omega, by omega, rfl, O3.out⟩
  case round =>
    obtain ⟨k, hk, hk40, rfl, ho⟩ := hrel
    by_cases hlt : k < os.length ∧ k < 40
    · obtain ⟨hlt, h40⟩ := hlt
      have hd1 : decide ((k : Int) < os.length) = true := by simp; omega
      obtain ⟨lb, lo, kd, s, d, so', sl', sc', zs', rfl, hlb, hok, hokk, e0, e1, e2, e3⟩ := opsAt_elem Hos.out ho.below k hlt
      rw [hok] at hokk
      have hlbr : lb < wr.heap.size := Nat.lt_of_lt_of_le hlb ho.below.size
      have Hc := Lib.hid (performR_c Emp emp_stab w wr b mb db k n _ so' sl' sc' rfl hokk (by omega) (by omega) ho)
      dsimp only at Hc
      clear hok hokk ho
      go_wp2_with fail
      refine Hc.out.mono ?_
      rintro e w4 ⟨rfl, ho4⟩
      have Ho4 := Lib.hid ho4
      clear ho4 Hc e0 e1 e2 e3
      go_wp2_with fail
      go_roundw
      case rel => exact ⟨k + 1, by omega, by omega, by go_num, Ho4.out⟩
      case measure => simp [intOf]; omega
    · have hx : (decide ((k : Int) < os.length) = false ∧ os.length ≤ k) ∨ (decide ((k : Int) < os.length) = true ∧ 40 ≤ k) := by
        by_cases h : k < os.length
        · right; exact ⟨by simp; omega, by omega⟩
        · left; exact ⟨by simp; omega, by omega⟩
      clear hlt
      have hHk : True := trivial
      rcases hx with ⟨hd1, hge⟩ | ⟨hd1, hge⟩
      · skip
        obtain ⟨v, d, hc, hl, hd, ho⟩ := ho
        obtain ⟨pv, dv, qv, hv, hdk⟩ := two ho
        have hl4 : v.pend.length ≤ 4096 := by omega
        have Hc := Lib.hid hc
        have Hd := Lib.hid hd
        have Hdk := Lib.hid hdk
        have Hv := Lib.hid hv
        have Ho := Lib.hid ho.drop
        have Hl4 := Lib.hid hl4
        have Hl40 := Lib.hid hl
        have Hdl4 : Hid (d.pend.length ≤ 4096) := by rw [hc.pend]; exact hl4
        clear hc hl hd ho hdk hv hl4
        go_wp2_with fail
        refine (clone_c wr b mb pv v Hv.out Hl4.out).mono ?_
        rintro e w4 ⟨b2, mb2, pv2, rfl, hv2, hf2, hk4⟩
        have Hv2 := Lib.hid hv2
        have Hf2 := Lib.hid hf2
        have Hk4 := Lib.hid hk4
        clear hv2 hf2 hk4
        go_wp2_with fail
        refine (copied_c w4 db dv qv d (Hdk.out.keep0 Hk4.out) Hdl4.out (by rw [Hd.out]; omega) (by rw [Hd.out]; omega)).mono ?_
        rintro e w5 ⟨db2, dv2, qv2, rfl, hd2, hf3, hk5⟩
        have hsz4 := Hk4.out.size
        have HO : Hid (Own0 w (Sep (Sep (VolH b mb v) (DkH db d)) (Sep (VolH b2 mb2 v) (DkH db2 d))) w5) :=
          Ho.out.new ((volH_stab _ _ _).sep (dkH_stab _ _)) (Hk4.out.trans0 hk5) (G := (b2 :: mb2 :: pv2.ownBlock.toList) ++ fp db2 dv2 qv2) (sep_two (volH_stab _ _ _) ⟨pv2, Hv2.out, rfl⟩ hk5 ⟨dv2, qv2, hd2, rfl⟩ hf3) (fun x hx => by
            rcases List.mem_append.1 hx with h | h
            · exact Hf2.out x h
            · have := hf3 x h; omega)
        clear hd2 hf3 hk5 hsz4 Hk4 Hf2 Hv2 Hv Ho Hdk
        have HG := Lib.hid (corrN_goods Hc.out Hd.out (by omega))
        obtain ⟨pv', dv', qv', pv2', dv2', qv2', hv, hd1, hv2, hd2⟩ := four HO.out
        have hself : vEq v v = true := by rw [eq_law Hc.out Hc.out, dEq_self]
        have he1 := equal_c w5 b mb b2 mb2 pv' pv2' v v hv hv2 Hl4.out Hl4.out HG.out HG.out Hc.out.keys
        rw [hself] at he1
        have He1 := Lib.hid he1
        have Hvv := Lib.hid hv
        have Hvv2 := Lib.hid hv2
        have Hself := Lib.hid hself
        clear he1 hv hv2 hd1 hd2 hself
        go_wp2_with fail
        refine He1.out.mono ?_
        rintro e w6 ⟨rfl, hk6⟩
        have he2 := equal_c w6 b2 mb2 b mb pv2' pv' v v (Hvv2.out.keep0 hk6) (Hvv.out.keep0 hk6) Hl4.out Hl4.out HG.out HG.out Hc.out.keys
        rw [Hself.out] at he2
        have He2 := Lib.hid he2
        have HO6 := Lib.hid (HO.out.keep (((volH_stab _ _ _).sep (dkH_stab _ _)).sep ((volH_stab _ _ _).sep (dkH_stab _ _))) hk6)
        clear hk6 he2 He1 HO Hvv Hvv2 Hself
        go_wp2_with fail
        refine He2.out.mono ?_
        rintro e w7 ⟨rfl, hk7⟩
        have HO7 := Lib.hid (HO6.out.keep (((volH_stab _ _ _).sep (dkH_stab _ _)).sep ((volH_stab _ _ _).sep (dkH_stab _ _))) hk7)
        clear hk7 HO6 He2
        have HR : Hid (Stab (Sep (VolH b2 mb2 v) (DkH db2 d))) := (volH_stab _ _ _).sep (dkH_stab _ _)
        have P7 : Hid (PerfR w (Sep (VolH b2 mb2 v) (DkH db2 d)) b mb db 40 n w7) := ⟨v, d, Hc.out, by have := Hl40.out; omega, Hd.out, HO7.out⟩
        clear HO7
        try clear hlk
        clear hd1 hge hk hk40 hHk
        go_wp2_with fail
        go_loopw [13] (fun i wr => ∃ k : Nat, k ≤ os2.length ∧ k ≤ 10 ∧ i = .int .i64 k ∧ PerfR w (Sep (VolH b2 mb2 v) (DkH db2 d)) b mb db (40 + k) n wr) (fun i _ => 10 - (intOf i).toNat)
        case atStart => exact ⟨0, by omega, by omega, rfl, P7.out⟩
        case round =>
          obtain ⟨k, hk, hk40, rfl, ho⟩ := hrel
          have Ho := Lib.hid ho
          by_cases hlt : k < os2.length ∧ k < 10
          · obtain ⟨hlt, h40⟩ := hlt
            have hd1 : decide ((k : Int) < os2.length) = true := by simp; omega
            obtain ⟨lb, lo, kd, s, dd, so', sl', sc', zs', rfl, hlb, hok, hokk, e0, e1, e2, e3⟩ := opsAt_elem Hos2.out ho.below k hlt
            rw [hok] at hokk
            have hlbr : lb < wr.heap.size := Nat.lt_of_lt_of_le hlb ho.below.size
            have Hcc := Lib.hid (performR_c _ HR.out w wr b mb db (40 + k) n _ so' sl' sc' rfl hokk (by omega) (by omega) ho)
            dsimp only at Hcc
            clear hok hokk ho
            go_wp2_with fail
            refine Hcc.out.mono ?_
            rintro e w8 ⟨rfl, ho8⟩
            have Ho8 := Lib.hid ho8
            clear ho8 Hcc e0 e1 e2 e3
            go_wp2_with fail
            go_roundw
            case rel => exact ⟨k + 1, by omega, by omega, by go_num, Ho8.out⟩
            case measure => simp [intOf]; omega
          · have hx : (decide ((k : Int) < os2.length) = false ∧ os2.length ≤ k) ∨ (decide ((k : Int) < os2.length) = true ∧ 10 ≤ k) := by
              by_cases h : k < os2.length
              · right; exact ⟨by simp; omega, by omega⟩
              · left; exact ⟨by simp; omega, by omega⟩
            clear hlt Ho
            obtain ⟨v1, d1, hc1, hl1, hdl1, ho1⟩ := ho
            obtain ⟨pv, dv, qv, pv2, dv2, qv2, hv, hd1, hv2, hd2⟩ := four ho1
            have hlv1 : v1.pend.length ≤ 4096 := by omega
            have Hag := Lib.hid (agrees_c wr b2 mb2 db2 pv2 dv2 qv2 v d hv2 hd2 Hc.out.toCorr Hl4.out (by rw [Hd.out]; omega))
            have Heq1 : Hid (∀ w', Keep [] wr w' → Calls Try.prog 35 #[.pointer (some ⟨b, 0, none⟩), .pointer (some ⟨b2, 0, none⟩)] w' fun e w'' => e = .returned (.bool (dEq d1 d)) ∧ Keep [] w' w'') := fun w' hk => by
              rw [← eq_law hc1 Hc.out]
              exact equal_c w' b mb b2 mb2 pv pv2 v1 v (hv.keep0 hk) (hv2.keep0 hk) hlv1 Hl4.out (corrN_goods hc1 hdl1 (by omega)) HG.out hc1.keys
            have Heq2 : Hid (∀ w', Keep [] wr w' → Calls Try.prog 35 #[.pointer (some ⟨b2, 0, none⟩), .pointer (some ⟨b, 0, none⟩)] w' fun e w'' => e = .returned (.bool (dEq d1 d)) ∧ Keep [] w' w'') := fun w' hk => by
              rw [dEq_comm, ← eq_law Hc.out hc1]
              exact equal_c w' b2 mb2 b mb pv2 pv v v1 (hv2.keep0 hk) (hv.keep0 hk) Hl4.out hlv1 HG.out (corrN_goods hc1 hdl1 (by omega)) Hc.out.keys
            have Hsm : Hid (∀ w', Keep [] wr w' → Calls Try.prog 36 #[.pointer (some ⟨db, 0, none⟩), .pointer (some ⟨db2, 0, none⟩)] w' fun e w'' => e = .returned (.bool (dEq d1 d)) ∧ Keep [] w' w'') := fun w' hk =>
              same_c w' db db2 dv qv dv2 qv2 d1 d (hd1.keep0 hk) (hd2.keep0 hk) (by rw [hc1.pend]; exact hlv1) Hdl4.out (by rw [hdl1]; omega) (by rw [Hd.out]; omega)
            have Hbl := Lib.hid ho1.below
            generalize dEq d1 d = r at *
            clear hc1 hl1 hdl1 ho1 hv hd1 hv2 hd2 hlv1 Hc HG HR P7
            rcases hx with ⟨hx1, hx2⟩ | ⟨hx1, hx2⟩
            · skip
              go_wp2_with fail
              refine Hag.out.mono ?_
              rintro e x1 ⟨rfl, k1⟩
              have K1 := Lib.hid k1
              clear k1 Hag
              go_wp2_with fail
              refine (Heq1.out _ K1.out).mono ?_
              rintro e x2 ⟨rfl, k2⟩
              have K2 := Lib.hid (K1.out.trans0 k2)
              clear k2
              go_wp2_with fail
              refine (Hsm.out _ K2.out).mono ?_
              rintro e x3 ⟨rfl, k3⟩
              have K3 := Lib.hid (K2.out.trans0 k3)
              clear k3
              go_wp2_with fail
              refine (Heq2.out _ K3.out).mono ?_
              rintro e x4 ⟨rfl, k4⟩
              have K4 := Lib.hid (K3.out.trans0 k4)
              clear k4
              go_wp2_with fail
              refine (Hsm.out _ K4.out).mono ?_
              rintro e x5 ⟨rfl, k5⟩
              have K5 := Lib.hid (Hbl.out.trans ((K4.out.trans0 k5).below0.mono Hbl.out.size))
              clear k5
              go_wp2_with fail
              go_returns
              exact ⟨by simp, K5.out⟩
            · have hlk2 : k < os2.length := by simpa using hx1
              go_wp2_with fail
              refine Hag.out.mono ?_
              rintro e x1 ⟨rfl, k1⟩
              have K1 := Lib.hid k1
              clear k1 Hag
              go_wp2_with fail
              refine (Heq1.out _ K1.out).mono ?_
              rintro e x2 ⟨rfl, k2⟩
              have K2 := Lib.hid (K1.out.trans0 k2)
              clear k2
              go_wp2_with fail
              refine (Hsm.out _ K2.out).mono ?_
              rintro e x3 ⟨rfl, k3⟩
              have K3 := Lib.hid (K2.out.trans0 k3)
              clear k3
              go_wp2_with fail
              refine (Heq2.out _ K3.out).mono ?_
              rintro e x4 ⟨rfl, k4⟩
              have K4 := Lib.hid (K3.out.trans0 k4)
              clear k4
              go_wp2_with fail
              refine (Hsm.out _ K4.out).mono ?_
              rintro e x5 ⟨rfl, k5⟩
              have K5 := Lib.hid (Hbl.out.trans ((K4.out.trans0 k5).below0.mono Hbl.out.size))
              clear k5
              go_wp2_with fail
              go_returns
              exact ⟨by simp, K5.out⟩
      · have hlk : k < os.length := by simpa using hd1
        obtain ⟨v, d, hc, hl, hd, ho⟩ := ho
        obtain ⟨pv, dv, qv, hv, hdk⟩ := two ho
        have hl4 : v.pend.length ≤ 4096 := by omega
        have Hc := Lib.hid hc
        have Hd := Lib.hid hd
        have Hdk := Lib.hid hdk
        have Hv := Lib.hid hv
        have Ho := Lib.hid ho.drop
        have Hl4 := Lib.hid hl4
        have Hl40 := Lib.hid hl
        have Hdl4 : Hid (d.pend.length ≤ 4096) := by rw [hc.pend]; exact hl4
        clear hc hl hd ho hdk hv hl4
        go_wp2_with fail
        refine (clone_c wr b mb pv v Hv.out Hl4.out).mono ?_
        rintro e w4 ⟨b2, mb2, pv2, rfl, hv2, hf2, hk4⟩
        have Hv2 := Lib.hid hv2
        have Hf2 := Lib.hid hf2
        have Hk4 := Lib.hid hk4
        clear hv2 hf2 hk4
        go_wp2_with fail
        refine (copied_c w4 db dv qv d (Hdk.out.keep0 Hk4.out) Hdl4.out (by rw [Hd.out]; omega) (by rw [Hd.out]; omega)).mono ?_
        rintro e w5 ⟨db2, dv2, qv2, rfl, hd2, hf3, hk5⟩
        have hsz4 := Hk4.out.size
        have HO : Hid (Own0 w (Sep (Sep (VolH b mb v) (DkH db d)) (Sep (VolH b2 mb2 v) (DkH db2 d))) w5) :=
          Ho.out.new ((volH_stab _ _ _).sep (dkH_stab _ _)) (Hk4.out.trans0 hk5) (G := (b2 :: mb2 :: pv2.ownBlock.toList) ++ fp db2 dv2 qv2) (sep_two (volH_stab _ _ _) ⟨pv2, Hv2.out, rfl⟩ hk5 ⟨dv2, qv2, hd2, rfl⟩ hf3) (fun x hx => by
            rcases List.mem_append.1 hx with h | h
            · exact Hf2.out x h
            · have := hf3 x h; omega)
        clear hd2 hf3 hk5 hsz4 Hk4 Hf2 Hv2 Hv Ho Hdk
        have HG := Lib.hid (corrN_goods Hc.out Hd.out (by omega))
        obtain ⟨pv', dv', qv', pv2', dv2', qv2', hv, hd1, hv2, hd2⟩ := four HO.out
        have hself : vEq v v = true := by rw [eq_law Hc.out Hc.out, dEq_self]
        have he1 := equal_c w5 b mb b2 mb2 pv' pv2' v v hv hv2 Hl4.out Hl4.out HG.out HG.out Hc.out.keys
        rw [hself] at he1
        have He1 := Lib.hid he1
        have Hvv := Lib.hid hv
        have Hvv2 := Lib.hid hv2
        have Hself := Lib.hid hself
        clear he1 hv hv2 hd1 hd2 hself
        go_wp2_with fail
        refine He1.out.mono ?_
        rintro e w6 ⟨rfl, hk6⟩
        have he2 := equal_c w6 b2 mb2 b mb pv2' pv' v v (Hvv2.out.keep0 hk6) (Hvv.out.keep0 hk6) Hl4.out Hl4.out HG.out HG.out Hc.out.keys
        rw [Hself.out] at he2
        have He2 := Lib.hid he2
        have HO6 := Lib.hid (HO.out.keep (((volH_stab _ _ _).sep (dkH_stab _ _)).sep ((volH_stab _ _ _).sep (dkH_stab _ _))) hk6)
        clear hk6 he2 He1 HO Hvv Hvv2 Hself
        go_wp2_with fail
        refine He2.out.mono ?_
        rintro e w7 ⟨rfl, hk7⟩
        have HO7 := Lib.hid (HO6.out.keep (((volH_stab _ _ _).sep (dkH_stab _ _)).sep ((volH_stab _ _ _).sep (dkH_stab _ _))) hk7)
        clear hk7 HO6 He2
        have HR : Hid (Stab (Sep (VolH b2 mb2 v) (DkH db2 d))) := (volH_stab _ _ _).sep (dkH_stab _ _)
        have P7 : Hid (PerfR w (Sep (VolH b2 mb2 v) (DkH db2 d)) b mb db 40 n w7) := ⟨v, d, Hc.out, by have := Hl40.out; omega, Hd.out, HO7.out⟩
        clear HO7
        try clear hlk
        clear hd1 hge hk hk40 hHk
        go_wp2_with fail
        go_loopw [13] (fun i wr => ∃ k : Nat, k ≤ os2.length ∧ k ≤ 10 ∧ i = .int .i64 k ∧ PerfR w (Sep (VolH b2 mb2 v) (DkH db2 d)) b mb db (40 + k) n wr) (fun i _ => 10 - (intOf i).toNat)
        case atStart => exact ⟨0, by omega, by omega, rfl, P7.out⟩
        case round =>
          obtain ⟨k, hk, hk40, rfl, ho⟩ := hrel
          have Ho := Lib.hid ho
          by_cases hlt : k < os2.length ∧ k < 10
          · obtain ⟨hlt, h40⟩ := hlt
            have hd1 : decide ((k : Int) < os2.length) = true := by simp; omega
            obtain ⟨lb, lo, kd, s, dd, so', sl', sc', zs', rfl, hlb, hok, hokk, e0, e1, e2, e3⟩ := opsAt_elem Hos2.out ho.below k hlt
            rw [hok] at hokk
            have hlbr : lb < wr.heap.size := Nat.lt_of_lt_of_le hlb ho.below.size
            have Hcc := Lib.hid (performR_c _ HR.out w wr b mb db (40 + k) n _ so' sl' sc' rfl hokk (by omega) (by omega) ho)
            dsimp only at Hcc
            clear hok hokk ho
            go_wp2_with fail
            refine Hcc.out.mono ?_
            rintro e w8 ⟨rfl, ho8⟩
            have Ho8 := Lib.hid ho8
            clear ho8 Hcc e0 e1 e2 e3
            go_wp2_with fail
            go_roundw
            case rel => exact ⟨k + 1, by omega, by omega, by go_num, Ho8.out⟩
            case measure => simp [intOf]; omega
          · have hx : (decide ((k : Int) < os2.length) = false ∧ os2.length ≤ k) ∨ (decide ((k : Int) < os2.length) = true ∧ 10 ≤ k) := by
              by_cases h : k < os2.length
              · right; exact ⟨by simp; omega, by omega⟩
              · left; exact ⟨by simp; omega, by omega⟩
            clear hlt Ho
            obtain ⟨v1, d1, hc1, hl1, hdl1, ho1⟩ := ho
            obtain ⟨pv, dv, qv, pv2, dv2, qv2, hv, hd1, hv2, hd2⟩ := four ho1
            have hlv1 : v1.pend.length ≤ 4096 := by omega
            have Hag := Lib.hid (agrees_c wr b2 mb2 db2 pv2 dv2 qv2 v d hv2 hd2 Hc.out.toCorr Hl4.out (by rw [Hd.out]; omega))
            have Heq1 : Hid (∀ w', Keep [] wr w' → Calls Try.prog 35 #[.pointer (some ⟨b, 0, none⟩), .pointer (some ⟨b2, 0, none⟩)] w' fun e w'' => e = .returned (.bool (dEq d1 d)) ∧ Keep [] w' w'') := fun w' hk => by
              rw [← eq_law hc1 Hc.out]
              exact equal_c w' b mb b2 mb2 pv pv2 v1 v (hv.keep0 hk) (hv2.keep0 hk) hlv1 Hl4.out (corrN_goods hc1 hdl1 (by omega)) HG.out hc1.keys
            have Heq2 : Hid (∀ w', Keep [] wr w' → Calls Try.prog 35 #[.pointer (some ⟨b2, 0, none⟩), .pointer (some ⟨b, 0, none⟩)] w' fun e w'' => e = .returned (.bool (dEq d1 d)) ∧ Keep [] w' w'') := fun w' hk => by
              rw [dEq_comm, ← eq_law Hc.out hc1]
              exact equal_c w' b2 mb2 b mb pv2 pv v v1 (hv2.keep0 hk) (hv.keep0 hk) Hl4.out hlv1 HG.out (corrN_goods hc1 hdl1 (by omega)) Hc.out.keys
            have Hsm : Hid (∀ w', Keep [] wr w' → Calls Try.prog 36 #[.pointer (some ⟨db, 0, none⟩), .pointer (some ⟨db2, 0, none⟩)] w' fun e w'' => e = .returned (.bool (dEq d1 d)) ∧ Keep [] w' w'') := fun w' hk =>
              same_c w' db db2 dv qv dv2 qv2 d1 d (hd1.keep0 hk) (hd2.keep0 hk) (by rw [hc1.pend]; exact hlv1) Hdl4.out (by rw [hdl1]; omega) (by rw [Hd.out]; omega)
            have Hbl := Lib.hid ho1.below
            generalize dEq d1 d = r at *
            clear hc1 hl1 hdl1 ho1 hv hd1 hv2 hd2 hlv1 Hc HG HR P7
            rcases hx with ⟨hx1, hx2⟩ | ⟨hx1, hx2⟩
            · skip
              go_wp2_with fail
              refine Hag.out.mono ?_
              rintro e x1 ⟨rfl, k1⟩
              have K1 := Lib.hid k1
              clear k1 Hag
              go_wp2_with fail
              refine (Heq1.out _ K1.out).mono ?_
              rintro e x2 ⟨rfl, k2⟩
              have K2 := Lib.hid (K1.out.trans0 k2)
              clear k2
              go_wp2_with fail
              refine (Hsm.out _ K2.out).mono ?_
              rintro e x3 ⟨rfl, k3⟩
              have K3 := Lib.hid (K2.out.trans0 k3)
              clear k3
              go_wp2_with fail
              refine (Heq2.out _ K3.out).mono ?_
              rintro e x4 ⟨rfl, k4⟩
              have K4 := Lib.hid (K3.out.trans0 k4)
              clear k4
              go_wp2_with fail
              refine (Hsm.out _ K4.out).mono ?_
              rintro e x5 ⟨rfl, k5⟩
              have K5 := Lib.hid (Hbl.out.trans ((K4.out.trans0 k5).below0.mono Hbl.out.size))
              clear k5
              go_wp2_with fail
              go_returns
              exact ⟨by simp, K5.out⟩
            · have hlk2 : k < os2.length := by simpa using hx1
              go_wp2_with fail
              refine Hag.out.mono ?_
              rintro e x1 ⟨rfl, k1⟩
              have K1 := Lib.hid k1
              clear k1 Hag
              go_wp2_with fail
              refine (Heq1.out _ K1.out).mono ?_
              rintro e x2 ⟨rfl, k2⟩
              have K2 := Lib.hid (K1.out.trans0 k2)
              clear k2
              go_wp2_with fail
              refine (Hsm.out _ K2.out).mono ?_
              rintro e x3 ⟨rfl, k3⟩
              have K3 := Lib.hid (K2.out.trans0 k3)
              clear k3
              go_wp2_with fail
              refine (Heq2.out _ K3.out).mono ?_
              rintro e x4 ⟨rfl, k4⟩
              have K4 := Lib.hid (K3.out.trans0 k4)
              clear k4
              go_wp2_with fail
              refine (Hsm.out _ K4.out).mono ?_
              rintro e x5 ⟨rfl, k5⟩
              have K5 := Lib.hid (Hbl.out.trans ((K4.out.trans0 k5).below0.mono Hbl.out.size))
              clear k5
              go_wp2_with fail
              go_returns
              exact ⟨by simp, K5.out⟩
/-! ### frame -/
open Go.ChangeShapes Go.WideShapes Go.ChangeAt
open Go.ChangeMaps (open_string shut_string)
theorem volumeClones_walk (a0 : Int) (w0 : (Lit.int .u8 a0).wf = true) (v1 v2 : Value) (w : World) (m1 : OpsArg w v1) (m2 : OpsArg w v2) :
    Calls Try.prog 11 #[.int .u8 a0, v1, v2] w fun e w' => e = .returned (.bool true) ∧ Below w.heap.size w w' := by
  obtain ⟨os, h⟩ := m1
  obtain ⟨os2, h2⟩ := m2
  exact clones a0 v1 v2 os os2 (Go.bounds_u8 w0) w h h2
theorem volumeClones_own : ownKnob Try.prog.godebug = none := by kernel_rfl
theorem volumeClones_laidOut : laidOutB Try.prog = true := by kernel_rfl
set_option maxRecDepth 100000 in
theorem volumeClones_lifted (os : Os) (started : os.Started) (H : Type) (enc : TypeId × Value → H) :
    ReturnsInHanded {} Try.checked os 11 .any (Rows.volumeClonesSpec.pre6 enc Try.prog Try.f11 Rows.volumeClonesRow.domain false) (Rows.volumeClonesSpec.post enc Try.prog Try.f11 false true false false) := by
  refine returnsInHanded_of_change (C := Try.checked) volumeClones_own started (by kernel_rfl) Try.func11
    (ChangeSpec.witness6 (enc := enc) (C := Try.checked) false ⟨#[], #[.int .u8 0, .slice none 0 0, .slice none 0 0], []⟩ 8 (by kernel_rfl) (by kernel_rfl) (by kernel_rfl) (by kernel_rfl)) ?_
  intro W base args ds gs before hval0 hW hcnd _
  have hval : ∀ (j : Nat) t v, Try.f11.params[j]? = some t → args[j]? = some v → Value.okWide Try.prog W .any base t v := hval0
  have hW' := hW
  obtain ⟨p, q, hA0, hV, rfl, hfz, hnd⟩ := hW
  have hA : DataW.TrodAll enc Try.prog W 0 (fun _ => true) true Try.f11.params.toList args.toList ds p := hA0
  rw [Try.params11] at hA hval
  obtain ⟨v0, vs0, d0, ds0, p0, q0, hargs, rfl, rfl, h0, r0⟩ := trodAll_cons hA
  obtain ⟨v1, vs1, d1, ds1, p1, q1, rfl, rfl, rfl, h1, r1⟩ := trodAll_cons r0
  obtain ⟨v2, vs2, d2, ds2, p2, q2, rfl, rfl, rfl, h2, r2⟩ := trodAll_cons r1
  obtain ⟨rfl, rfl, rfl⟩ := trodAll_nil r2
  obtain rfl : args = #[v0, v1, v2] := by cases args; simp_all
  obtain ⟨rfl, rfl⟩ := trodVars_none hV
  have k0 := h0
  have lt0 : ∀ x ∈ p0, x.block < W.heap.size := by obtain ⟨m, hm⟩ := k0; exact DataW.trod_lt m _ _ _ hm
  have k1 := h1
  have lt1 : ∀ x ∈ p1, x.block < W.heap.size := by obtain ⟨m, hm⟩ := k1; exact DataW.trod_lt m _ _ _ hm
  have k2 := h2
  have lt2 : ∀ x ∈ p2, x.block < W.heap.size := by obtain ⟨m, hm⟩ := k2; exact DataW.trod_lt m _ _ _ hm
  obtain ⟨a0, rfl, rfl, rfl, w0⟩ := open_int Try.underlying5 (hval 0 5 v0 rfl rfl) h0
  have m1 : OpsArg W v1 := OpsArg_open (hval 1 26 v1 rfl rfl) h1
  have m2 : OpsArg W v2 := OpsArg_open (hval 2 26 v2 rfl rfl) h2
  clear hA0 hval0
  refine (volumeClones_walk a0 w0 v1 v2 W m1 m2).mono fun e W' ⟨he, bel⟩ => ?_
  subst he
  exact ⟨_, rfl, _, _, _, [], _, [], hW', trodAll_mk1 (shut_bool Try.underlying4 _), (trodAll_cons_mk (Below.trod volumeClones_laidOut (by kernel_rfl) (of_decide_eq_true (by kernel_rfl)) k0 bel lt0) (trodAll_cons_mk (Below.trod volumeClones_laidOut (by kernel_rfl) (of_decide_eq_true (by kernel_rfl)) k1 bel lt1) (trodAll_cons_mk (Below.trod volumeClones_laidOut (by kernel_rfl) (of_decide_eq_true (by kernel_rfl)) k2 bel lt2) trodAll_mk0))), rfl, bel.frame _, fun h => by cases h⟩
theorem volumeClones_over : Rows.volumeClonesRow.holds Try.pinned (OpenSpec.ofChange Rows.volumeClonesSpec) :=
  OpenClaim.holds_of_wide 11 Try.f11 rfl rfl rfl rfl rfl rfl rfl ⟨rfl, rfl, rfl, rfl, rfl⟩ rfl rfl rfl rfl rfl (by kernel_rfl) Try.func11 (by kernel_rfl)
    (of_decide_eq_true (by kernel_rfl)) (by unfold Func.isWrapper; first | (rw [if_pos (by decide +kernel)]; kernel_rfl) | (rw [if_neg (by decide +kernel)]; exact ⟨rfl, rfl⟩))
    (fun os started H enc _ => volumeClones_lifted os started H enc)
/-- The statement. -/
theorem volumeClones_proved : Rows.VolumeClonesSaid := volumeClones_over
#print axioms volumeClones_proved
end Go.Proofs.Ytombldjaipcloaa
