import Derived.Test.YtgmggmpkbfljfaaJa
/- Sectors, sectors, failed, fill. -/
set_option linter.unusedVariables false
set_option linter.unusedSimpArgs false
set_option maxRecDepth 100000
namespace Go.Proofs.Ytgmggmpkbfljfaa
open Go.RowKit
theorem secs_int (a : Nat) (h : a ≤ 5000000) : ((a : Int) + 128 - 1) / 128 = (((a + 127) / 128 : Nat) : Int) := by omega
set_option maxHeartbeats 2000000 in
theorem sectors_c (w : World) (sv : Value) (l : List ByteArray) (h : RowR w sv (scells l)) (hl : l.length ≤ 256) (hs : ∀ s ∈ l, s.size ≤ 16384) :
    Calls Try.prog 48 #[sv] w fun e w' => e = .returned (.int .i64 (secsN l)) ∧ w' = w := by
  have hsum := sumS_le l hs
  obtain ⟨ao, c, rfl⟩ := h.form
  have HE := Lib.hid h.cells
  rw [scells_length]
  have HS := Lib.hid hs
  clear h hs
  obtain ⟨len, hlen⟩ : ∃ len, l.length = len := ⟨_, rfl⟩
  rw [hlen] at hl hsum ⊢
  have Hlen := Lib.hid hlen
  clear hlen
  go_enter Try.func48, Try.ntmps48
  go_wp2_with fail
  go_loopw [3, 4] (fun n i wr => ∃ k : Nat, k ≤ len ∧ i = .int .i64 k ∧ ∃ z : Nat, n = .int .i64 z ∧ z = 12 + 4 * k + sumS (l.take k) ∧ wr = w) (fun _ i _ => len - (intOf i).toNat)
  case atStart => exact ⟨0, by omega, rfl, 12, rfl, rfl, rfl⟩
  case round =>
    obtain ⟨k, hk, rfl, z, rfl, hz, rfl⟩ := hrel
    have hts := sumS_take l k
    have Hz := Lib.hid hz
    have hzb : z ≤ 4300000 := by omega
    clear hz
    by_cases hlt : k < len
    · have hkl : k < l.length := by rw [Hlen.out]; exact hlt
      obtain ⟨g, o, rfl, hcell⟩ := HE.out (Nat.lt_of_le_of_lt (Nat.zero_le _) hkl)
      have hc := hcell wr (Keep.refl _ _) k hkl
      have hrs := HS.out l[k] (List.getElem_mem _)
      have Hn : Hid (z + 4 + l[k].size = 12 + 4 * (k + 1) + sumS (l.take (k + 1))) := by
        show _ = _
        rw [take_succ_get l k hkl, sumS_snoc, Hz.out]; omega
      generalize l[k] = r at *
      go_wp2_with fail
      go_roundw
      case rel => exact ⟨k + 1, by omega, by go_num, z + 4 + r.size, by go_num, Hn.out, trivial⟩
      case measure => simp [intOf]; omega
    · obtain rfl : k = len := by omega
      have hsi := secs_int z (by omega)
      have hfin : ((z + 127) / 128) = secsN l := by
        rw [Hz.out, List.take_of_length_le (Nat.le_of_eq Hlen.out)]; unfold secsN; rw [Hlen.out]
      have Hfin := Lib.hid hfin
      clear hfin
      go_wp2_with fail
      go_ret
      exact ⟨by rw [← Hfin.out, ← hsi]; rfl, rfl⟩
set_option maxHeartbeats 2000000 in
theorem jsectors_c (w : World) (sv : Value) (l : List ByteArray) (h : RowR w sv (scells l)) (hl : l.length ≤ 256) (hs : ∀ s ∈ l, s.size ≤ 16384) :
    Calls Try.prog 19 #[sv] w fun e w' => e = .returned (.int .i64 (secsN l)) ∧ w' = w := by
  have hsum := sumS_le l hs
  obtain ⟨ao, c, rfl⟩ := h.form
  have HE := Lib.hid h.cells
  rw [scells_length]
  have HS := Lib.hid hs
  clear h hs
  obtain ⟨len, hlen⟩ : ∃ len, l.length = len := ⟨_, rfl⟩
  rw [hlen] at hl hsum ⊢
  have Hlen := Lib.hid hlen
  clear hlen
  go_enter Try.func19, Try.ntmps19
  go_wp2_with fail
  go_loopw [3, 12] (fun n i wr => ∃ k : Nat, k ≤ len ∧ i = .int .i64 k ∧ ∃ z : Nat, n = .int .i64 z ∧ z = 12 + 4 * len + sumS (l.take k) ∧ wr = w) (fun _ i _ => len - (intOf i).toNat)
  case atStart => exact ⟨0, by omega, rfl, 12 + 4 * len, by go_num, rfl, rfl⟩
  case round =>
    obtain ⟨k, hk, rfl, z, rfl, hz, rfl⟩ := hrel
    have hts := sumS_take l k
    have Hz := Lib.hid hz
    have hzb : z ≤ 4300000 := by omega
    clear hz
    by_cases hlt : k < len
    · have hkl : k < l.length := by rw [Hlen.out]; exact hlt
      obtain ⟨g, o, rfl, hcell⟩ := HE.out (Nat.lt_of_le_of_lt (Nat.zero_le _) hkl)
      have hc := hcell wr (Keep.refl _ _) k hkl
      have hrs := HS.out l[k] (List.getElem_mem _)
      have Hn : Hid (z + l[k].size = 12 + 4 * len + sumS (l.take (k + 1))) := by
        show _ = _
        rw [take_succ_get l k hkl, sumS_snoc, Hz.out]; omega
      generalize l[k] = r at *
      go_wp2_with fail
      go_roundw
      case rel => exact ⟨k + 1, by omega, by go_num, z + r.size, by go_num, Hn.out, trivial⟩
      case measure => simp [intOf]; omega
    · obtain rfl : k = len := by omega
      have hsi := secs_int z (by omega)
      have hfin : ((z + 127) / 128) = secsN l := by
        rw [Hz.out, List.take_of_length_le (Nat.le_of_eq Hlen.out)]; unfold secsN; rw [Hlen.out]
      have Hfin := Lib.hid hfin
      clear hfin
      go_wp2_with fail
      go_ret
      exact ⟨by rw [← Hfin.out, ← hsi]; rfl, rfl⟩
theorem failed_m (jb vb : Nat) (J : Jn) (e : Int) : Met Try.prog 46 #[.pointer (some ⟨jb, 0, none⟩), .int .i64 e] (.int .i64 e) (JH jb vb J) (JH jb vb { J with broken := e == 20 }) := by
  rintro w F ⟨gv, pv, G, hG, hJ⟩
  obtain ⟨pg, groups, pend, broken⟩ := J
  dsimp only at hG hJ ⊢
  have hc := cell_of hJ.box
  have hf := frozen_of hJ.box
  simp only [jcells] at hc
  have HJ := Lib.hid hJ
  have HG := Lib.hid hG
  clear hJ hG
  go_enter Try.func46, Try.ntmps46
  go_wp2_with fail
  go_ret
  exact ⟨rfl, (HJ.out.setBox (q := pg) (cr := e == 20) (hv := gv) (qv := pv) 7 _ rfl).imp fun w F h => ⟨gv, pv, G, HG.out, h⟩⟩
end Go.Proofs.Ytgmggmpkbfljfaa

/- fill. -/
set_option linter.unusedVariables false
set_option linter.unusedSimpArgs false
set_option maxRecDepth 100000
namespace Go.Proofs.Ytgmggmpkbfljfaa
open Go.RowKit
def chunk (s : ByteArray) (i : Nat) : ByteArray := s.extract (i * 128) (i * 128 + 128)
theorem chunk_size (s : ByteArray) (i n : Nat) (hs : s.size = n * 128) (h : i < n) : (chunk s i).size = 128 := by
  unfold chunk; rw [ByteArray.size_extract]
  have : i * 128 + 128 ≤ n * 128 := by omega
  omega
/-- Writing the sectors of a string from the i-th on, m of them, and making them durable. -/
def vFill (R base : Nat) (s : ByteArray) : Nat → Nat → Vol → Int × Vol
  | 0, _, v => vBarrier v
  | m + 1, i, v => if (vWrite v ((2 + (base + i) % R : Nat) : Int) (chunk s i)).1 = 0 then vFill R base s m (i + 1) (vWrite v ((2 + (base + i) % R : Nat) : Int) (chunk s i)).2 else vWrite v ((2 + (base + i) % R : Nat) : Int) (chunk s i)
theorem vWrite_secs (v : Vol) (s : Int) (d : ByteArray) : (vWrite v s d).2.sectors = v.sectors := by
  have hop : ∀ v : Vol, (vOp v).2.sectors = v.sectors := fun v => by unfold vOp; split <;> (try split) <;> rfl
  unfold vWrite
  split
  · rfl
  split
  · rfl
  split
  · rfl
  split
  · rfl
  · dsimp only
    split
    · rw [hop]
    · dsimp only; rw [hop]
set_option maxHeartbeats 4000000 in
theorem fill_c (w : World) (F : List Nat) (jb vb mb : Nat) (p : Pg) (gv pv : Value) (br : Bool) (v : Vol) (R n : Nat) (s : ByteArray) (hv : VolH vb mb v w F)
    (hbx : w.heap[jb]? = some (.cells (jcells vb p gv pv br) 76 (0, 0))) (hnj : jb ∉ F) (hR : v.sectors = R + 2) (hR2 : R ≤ 65534) (hR0 : 0 < R)
    (hs : s.size = n * 128) (hn : n ≤ 1000) (hlen : v.pend.length + n ≤ 4096) (hp : p.p ≤ 1000000000) (hk : p.k ≤ 1000000000) :
    Calls Try.prog 44 #[.pointer (some ⟨jb, 0, none⟩), .string s] w fun e w' => e = .returned (.int .i64 (vFill R (p.p + p.k) s n 0 v).1) ∧ To (VolH vb mb (vFill R (p.p + p.k) s n 0 v).2) F w w' := by
  have HV := Lib.hid hv
  have HX := Lib.hid hbx
  have HN := Lib.hid hnj
  have HR := Lib.hid hR
  have HL := Lib.hid hlen
  have hsz : s.size ≤ 128000 := by omega
  have hszi : (s.size : Int) = (n : Int) * 128 := by omega
  have HZ := Lib.hid hs
  clear hv hbx hnj hR hlen
  go_enter Try.func44, Try.ntmps44
  go_wp2_with fail
  go_loopw [5] (fun i wr => ∃ k : Nat, k ≤ n ∧ i = .int .i64 k ∧ ∃ u : Vol, u.sectors = R + 2 ∧ u.pend.length + (n - k) ≤ 4096 ∧ vFill R (p.p + p.k) s n 0 v = vFill R (p.p + p.k) s (n - k) k u ∧ To (VolH vb mb u) F w wr) (fun i _ => n - (intOf i).toNat)
  case atStart => exact ⟨0, by omega, rfl, v, HR.out, HL.out, rfl, To.refl HV.out⟩
  case round =>
    obtain ⟨k, hkn, rfl, u, hu1, hu2, hu3, ht⟩ := hrel
    have Hu1 := Lib.hid hu1
    have Hu2 := Lib.hid hu2
    have Hu3 := Lib.hid hu3
    obtain ⟨F1, hF1, hk1, hs1⟩ := ht
    have HF1 := Lib.hid hF1
    have Hk1 := Lib.hid hk1
    have Hs1 := Lib.hid hs1
    have hjF : jb ∉ F1 := fun hm => by
      rcases hs1 jb hm with h | h
      · exact HN.out h
      · have := lt_of_heap HX.out; omega
    have hbr := hk1.heap HX.out HN.out
    have hc : ∀ m : KW wr, ∀ i, (Wk wr m).cell? ⟨jb, i, none⟩ = (jcells vb p gv pv br)[i]? := fun m => cell_of (m.k.heap hbr (by simp))
    simp only [jcells] at hc
    have hc0 := fun m => hc m 0
    have hc3 := fun m => hc m 3
    have hc4 := fun m => hc m 4
    simp only [List.getElem?_toArray, List.getElem?_cons_zero, List.getElem?_cons_succ] at hc0 hc3 hc4
    have Hbr := Lib.hid hbr
    have HSec : Hid (∀ m : KW wr, ∀ x : Nat, x ≤ 140737488355328 → Calls Try.prog 54 #[.pointer (some ⟨jb, 0, none⟩), .int .i64 x] (Wk wr m) fun e w' => e = .returned (.int .i64 ((2 + x % R : Nat) : Int)) ∧ ∃ m, w' = Wk wr m) := by
      intro m x hx
      obtain ⟨pw, hva, rfl⟩ := hF1
      exact (sector_c (Wk wr m) jb vb mb p gv pv pw br u R x (m.k.heap hbr (by simp)) (hva.keep m.k (by simp) (by simp) (by simp)) hu1 hR2 hR0 hx).mono fun e w' h => ⟨h.1, m, h.2⟩
    clear hu1 hu2 hu3 hF1 hk1 hs1 hc hbr
    by_cases hlt : k < n
    · have hkr : (k : Int) * 128 < s.size := by omega
      have hex : s.extract (k * 128) (k * 128 + 128) = chunk s k := rfl
      go_wp2_with fail
      refine wp_region_keep_tail 24 (by kernel_rfl) (by kernel_rfl) ?_
      simp only [List.take_succ_cons, List.take_zero, List.drop_succ_cons, List.drop_zero]
      repeat (first
        | go_big_quiet_skip
        | (go_big_quiet_want; go_big_quiet_op; first | go_big_quiet_on | go_big_quiet_call (first
          | (go_at_call 54; exact HSec.out _ (p.p + p.k + k) (by omega)))))
      refine wpQuiet_nil ?_
      rintro w1 ⟨⟨_, hk1⟩, rfl⟩
      have HF2 := Lib.hid ((volH_stab vb mb u).keep HF1.out hk1 (by simp))
      have Hk2 : Hid (Keep F1 wr w1) := hk1.mono (by simp)
      clear hk1 hc0 hc3 hc4 HSec
      have HW := Lib.hid (write_m vb mb u ((2 + (p.p + p.k + k) % R : Nat) : Int) (chunk s k))
      have hwl := vWrite_len u ((2 + (p.p + p.k + k) % R : Nat) : Int) (chunk s k)
      have hws := vWrite_secs u ((2 + (p.p + p.k + k) % R : Nat) : Int) (chunk s k)
      have hvf : vFill R (p.p + p.k) s (n - k) k u = if (vWrite u ((2 + (p.p + p.k + k) % R : Nat) : Int) (chunk s k)).1 = 0 then vFill R (p.p + p.k) s (n - (k + 1)) (k + 1) (vWrite u ((2 + (p.p + p.k + k) % R : Nat) : Int) (chunk s k)).2 else vWrite u ((2 + (p.p + p.k + k) % R : Nat) : Int) (chunk s k) := by
        rw [show n - k = (n - (k + 1)) + 1 by omega, vFill]
      generalize hgen : chunk s k = ck at *
      have Hgen : Hid (s.extract (k * 128) (k * 128 + 128) = ck) := by show _ = _; rw [hex]
      clear hgen hex
      go_wp2_with fail
      rw [Hgen.out]
      refine (HW.out w1 F1 HF2.out).mono ?_
      generalize vWrite u ((2 + (p.p + p.k + k) % R : Nat) : Int) ck = r at *
      obtain ⟨e1, u1⟩ := r
      dsimp only at hvf hwl hws ⊢
      rintro e w2 ⟨rfl, ht2⟩
      have Hvf := Lib.hid hvf
      have Ht2 : Hid (To (VolH vb mb u1) F w w2) := (ht2.from Hk2.out).before Hk1.out Hs1.out
      have Hus : Hid (u1.sectors = R + 2) := by show _ = _; rw [hws, Hu1.out]
      have Hul : Hid (u1.pend.length + (n - (k + 1)) ≤ 4096) := by have := Hu2.out; show _ ≤ _; omega
      clear hvf hwl hws ht2
      by_cases he : e1 = 0
      · subst he
        have hm1024 : (((k : Int) + 1) % 1024 == 0) = false := by rw [beq_eq_false_iff_ne]; omega
        have hst : vFill R (p.p + p.k) s (n - k) k u = vFill R (p.p + p.k) s (n - (k + 1)) (k + 1) u1 := by simpa using Hvf.out
        have Hst := Lib.hid hst
        clear hst
        go_wp2_with fail
        go_roundw
        case rel => exact ⟨k + 1, by omega, by go_num, u1, Hus.out, Hul.out, by rw [Hu3.out, Hst.out], Ht2.out⟩
        case measure => simp [intOf]; omega
      · have hb1 : (e1 != 0) = true := by rw [bne_iff_ne]; exact he
        have hst : vFill R (p.p + p.k) s n 0 v = (e1, u1) := by rw [Hu3.out, Hvf.out, if_neg he]
        have Hst := Lib.hid hst
        clear hst he
        go_wp2_with fail
        go_returns
        exact ⟨by rw [Hst.out]; rfl, by rw [Hst.out]; exact Ht2.out⟩
    · obtain rfl : k = n := by omega
      have hge : (s.size : Int) ≤ (k : Int) * 128 := by omega
      have hc0' : wr.cell? ⟨jb, 0, none⟩ = some (.pointer (some ⟨vb, 0, none⟩)) := by rw [cell_of Hbr.out]; rfl
      have HB : Hid (Met Try.prog 65 #[.pointer (some ⟨vb, 0, none⟩)] _ (VolH vb mb u) _) := barrier_m vb mb u (by have := Hu2.out; omega)
      have hst : vFill R (p.p + p.k) s k 0 v = vBarrier u := by rw [Hu3.out, Nat.sub_self]; rfl
      have Hst := Lib.hid hst
      clear hst hc0 hc3 hc4 HSec
      go_wp2_with fail
      refine (HB.out wr F1 HF1.out).mono ?_
      rintro e w2 ⟨rfl, ht2⟩
      have Ht2 : Hid (To (VolH vb mb (vBarrier u).2) F w w2) := ht2.before Hk1.out Hs1.out
      clear ht2
      go_wp2_with fail
      go_ret
      exact ⟨by rw [Hst.out]; rfl, by rw [Hst.out]; exact Ht2.out⟩
end Go.Proofs.Ytgmggmpkbfljfaa
