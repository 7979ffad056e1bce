/- For any number, operations and script the statement VolumeBarriers returns true. -/
import Derived.Test.YtombldjaipcloaaQ
set_option linter.unusedVariables false
set_option linter.unusedSimpArgs false
namespace Go.Proofs.Ytombldjaipcloaa
open Go.RowKit
def bLim (v : Vol) : Vol := { vStart v [] with limited := true, left := max 0 1 }
theorem bLim_up (v : Vol) : (bLim v).down = false := by unfold bLim vStart; split <;> simp_all
theorem bLim_sec (v : Vol) : (bLim v).sectors = v.sectors := by unfold bLim vStart; split; exact (vStartL_rest _ _ _ _).2; rfl
theorem bLim_pend (v : Vol) : (bLim v).pend.length ≤ v.pend.length := by unfold bLim vStart; split <;> simp
def bFlat (v : Vol) : Vol := (vBarrier (bLim v)).2
theorem bFlat_ok (v : Vol) : (vBarrier (bLim v)).1 = 0 ∧ (bFlat v).pend = [] ∧ (bFlat v).down = false ∧ (bFlat v).sectors = v.sectors := by
  have h1 : (vOp (bLim v)).1 = false ∧ (vOp (bLim v)).2.down = false ∧ (vOp (bLim v)).2.sectors = v.sectors := by
    unfold vOp
    rw [if_pos (show (bLim v).limited = true from rfl), if_neg (show ¬ (bLim v).left ≤ 0 from by show ¬ max 0 1 ≤ (0:Int); omega)]
    exact ⟨rfl, bLim_up v, bLim_sec v⟩
  have h2 : vBarrier (bLim v) = (0, { vFlush (vOp (bLim v)).2 (vOp (bLim v)).2.pend with pend := [], barriers := wrap64 ((vOp (bLim v)).2.barriers + 1) }) := by
    unfold vBarrier
    rw [if_neg (by rw [bLim_up]; simp), if_neg (by rw [h1.1]; simp)]
  have hr : ∀ (l : IS) (v : Vol), (vFlush v l).sectors = v.sectors ∧ (vFlush v l).down = v.down := by
    intro l
    induction l with
    | nil => intro v; exact ⟨rfl, rfl⟩
    | cons p l ih => intro v; have h := ih (vKeep v p.1 p.2); have k := vKeep_more v p.1 p.2; exact ⟨h.1.trans k.2.2.2.2.2, h.2.trans k.2.1⟩
  unfold bFlat
  rw [h2]
  exact ⟨rfl, rfl, (hr _ _).2.trans h1.2.1, (hr _ _).1.trans h1.2.2⟩
theorem read_flat {v : Vol} (h1 : v.pend = []) (h2 : v.down = false) (i : Nat) (h3 : (i : Int) < v.sectors) : vRead v i = (vDur v i, 0) := by
  unfold vRead
  rw [if_neg (by rw [h2]; simp), if_neg (by omega), h1]
  rfl
def bUp (v : Vol) (zs : List Nat) : Vol := vStart { bFlat v with down := true } zs
theorem bUp_ok (v : Vol) (zs : List Nat) : (bUp v zs).pend = [] ∧ (bUp v zs).down = false ∧ (bUp v zs).sectors = v.sectors ∧ ∀ i, vDur (bUp v zs) i = vDur (bFlat v) i := by
  obtain ⟨_, h1, h2, h3⟩ := bFlat_ok v
  unfold bUp vStart
  rw [if_pos rfl, show ({ bFlat v with down := true } : Vol).pend = [] from h1]
  exact ⟨rfl, rfl, h3, fun i => rfl⟩
def durs (v : Vol) (k : Nat) : List ByteArray := (List.range k).map fun i : Nat => vDur v i
theorem durs_succ (v : Vol) (k : Nat) : durs v (k + 1) = durs v k ++ [vDur v k] := by unfold durs; rw [List.range_succ, List.map_append]; rfl
theorem durs_length (v : Vol) (k : Nat) : (durs v k).length = k := by simp [durs]
theorem durs_get (v : Vol) (n k : Nat) (h : k < (durs v n).length) : (durs v n)[k] = vDur v k := by simp [durs]
theorem own_succ' {W : World} {base : Nat} {e : TypeId} {size : Nat} {v : Value} {k : Nat} {xs : List Value} (h : W.ownsRow base e size v k xs) : ∃ po pc, v = .slice po k pc := by
  rcases h.2 with ⟨hv, h0⟩ | ⟨g, cap, cur, hv, _⟩
  · exact ⟨none, 0, by rw [hv, h0]⟩
  · exact ⟨_, cap, hv⟩
set_option maxRecDepth 100000 in
set_option maxHeartbeats 4000000 in
theorem barriers (n0 : Int) (sv tv : Value) (os : List OpV) (zs : List Nat) (hn : 0 ≤ n0 ∧ n0 ≤ 255) (w : World) (hos : OpsAt w sv os) (hz : ByteRow w tv zs) (hzl : zs.length ≤ maxLen) :
    Calls Try.prog 7 #[.int .u8 n0, sv, tv] w fun e w' => e = .returned (.bool true) ∧ Below w.heap.size w w' := by
  obtain ⟨so, sc, rfl, hlen⟩ := opsAt_slice hos
  have Hos := Lib.hid hos
  unfold maxLen at hlen hzl
  obtain ⟨to, tc, rfl⟩ : ∃ to tc, tv = .slice to zs.length tc := by
    rcases hz with ⟨a, c, h1, h2⟩ | ⟨sb, so, c, h1, _⟩
    · exact ⟨a, c, by rw [h1, h2]; rfl⟩
    · exact ⟨_, c, h1⟩
  have Hz : Hid (∀ {A : HP} (w' : World), Own0 w A w' → ByteRow w' (.slice to zs.length tc) zs) := fun {A} w' ho => hz.far ho.below.block
  obtain ⟨n, hn'⟩ : ∃ n : Nat, 1 + n0 % 8 = n := ⟨(1 + n0 % 8).toNat, by omega⟩
  have HS := fun w => sectors_q n0 hn.1 hn.2 w
  rw [hn'] at HS
  have Hs := Lib.hid HS
  have hn3 : 1 ≤ n := by omega
  have hn4 : n ≤ 8 := by omega
  clear HS hn' hn
  clear hos hz
  by_cases hz50 : zs.length ≤ 50
  · go_enter Try.func7, Try.ntmps7
    go_wp2_with fail
    refine (Hs.out _).mono ?_
    rintro e w1 ⟨rfl, rfl⟩
    go_wp2_with fail
    refine (new_o n w (by omega) (by omega)).mono ?_
    rintro e w1 ⟨rfl, hv1, hk1⟩
    have O1 := Lib.hid (Own0.first (w0 := w) hv1 (by simp) hk1)
    clear hv1 hk1
    generalize w.heap.size + 1 = b at *
    generalize hmb : w.heap.size = mb at *
    have Hmb := Lib.hid hmb
    clear hmb
    go_wp2_with fail
    refine (known_c w1).mono ?_
    rintro e w2 ⟨rfl, hb2⟩
    have O2 := Lib.hid (keepOwn (volH_stab _ _ _) O1.out hb2)
    clear hb2 O1
    go_wp2_with fail
    refine (Hs.out _).mono ?_
    rintro e w3 ⟨rfl, rfl⟩
    go_wp2_with fail
    refine (blank_c n (by omega) w2).mono ?_
    rintro e w3 ⟨rfl, ⟨F, hF, hF2⟩, hk3⟩
    have O3 : Hid (Perf w b mb w2.heap.size 0 n w3) := ⟨vNew n, dNew n, corr_new n, Nat.zero_le _, List.length_replicate, O2.out.new (volH_stab _ _ _) hk3 hF hF2⟩
    clear hF hF2 hk3 O2
    generalize w2.heap.size = db at *
    go_wp2_with fail
    go_loopw [10] (fun i wr => ∃ k : Nat, k ≤ os.length ∧ k ≤ 40 ∧ i = .int .i64 k ∧ Perf w b mb db k n wr) (fun i _ => 40 - (intOf i).toNat)
    case atStart => exact ⟨0, by omega, by omega, rfl, O3.out⟩
    case round =>
      obtain ⟨k, hk, hk40, rfl, ho⟩ := hrel
      have Ho := Lib.hid ho
      by_cases hlt : k < os.length ∧ k < 40
      · obtain ⟨hlt, h40⟩ := hlt
        have hd1 : decide ((k : Int) < os.length) = true := by simp; omega
        obtain ⟨lb, lo, kd, s, d, so', sl', sc', zs', rfl, hlb, hok, hokk, e0, e1, e2, e3⟩ := opsAt_elem Hos.out ho.below k hlt
        rw [hok] at hokk
        have hlbr : lb < wr.heap.size := Nat.lt_of_lt_of_le hlb ho.below.size
        have Hc := Lib.hid (perform_c w wr b mb db k n _ so' sl' sc' rfl hokk (by omega) (by omega) ho)
        dsimp only at Hc
        clear hok hokk ho
        go_wp2_with fail
        refine Hc.out.mono ?_
        rintro e w4 ⟨rfl, ho4⟩
        have Ho4 := Lib.hid ho4
        clear ho4 Hc e0 e1 e2 e3
        go_wp2_with fail
        go_roundw
        case rel => exact ⟨k + 1, by omega, by omega, by go_num, Ho4.out⟩
        case measure => simp [intOf]; omega
      · have hx : (decide ((k : Int) < os.length) = false ∧ os.length ≤ k) ∨ (decide ((k : Int) < os.length) = true ∧ 40 ≤ k) := by
          by_cases h : k < os.length
          · right; exact ⟨by simp; omega, by omega⟩
          · left; exact ⟨by simp; omega, by omega⟩
        obtain ⟨v, d, hcorr, hvp, hdl, hv0⟩ := ho
        have hsec : v.sectors = n := by rw [hcorr.len, hdl]
        have Hpr : Hid (∀ p ∈ v.pend, 0 ≤ p.1 ∧ p.1 < v.sectors) := fun p hp => (hcorr.psz p hp).2
        have Hvp : Hid (v.pend.length ≤ 4096) := by show _ ≤ _; omega
        have Hv0 := Lib.hid hv0.drop
        have Hsec := Lib.hid hsec
        have Hflat := Lib.hid (bFlat_ok v)
        have Hup := Lib.hid (bUp_ok v zs)
        have Hpb : Hid ((bLim v).pend.length ≤ 4096) := Nat.le_trans (bLim_pend v) Hvp.out
        clear hcorr hvp hdl hv0 hsec Ho hlt
        have Hc0 : True := trivial
        rcases hx with ⟨hd1, hge⟩ | ⟨hd1, hge⟩
        · skip
          go_wp2_with fail
          refine (MetAt.own (A' := VolH b mb (vStart v [])) (fun F hF _ => start_m b mb v (.slice none 0 0) [] Hpr.out (by simp) Hvp.out _ F hF (.inl ⟨none, 0, rfl, rfl⟩)) Hv0.out).mono ?_
          rintro e w5 ⟨rfl, ho5⟩
          try clear hd2
          clear hd1 hge
          have Ho5 := Lib.hid ho5
          clear ho5
          go_wp2_with fail
          refine ((limit_m b mb (vStart v []) 1).own Ho5.out).mono ?_
          rintro e w6 ⟨rfl, ho6⟩
          have Ho6 : Hid (Own0 w (VolH b mb (bLim v)) w6) := ho6
          clear ho6 Ho5
          go_wp2_with fail
          refine ((barrier_m b mb (bLim v) Hpb.out).own Ho6.out).mono ?_
          rw [Hflat.out.1]
          rintro e w7 ⟨rfl, ho7⟩
          have Ho7 : Hid (Own0 w (VolH b mb (bFlat v)) w7) := ho7
          have Hfs : Hid ((bFlat v).sectors = n) := Hflat.out.2.2.2.trans Hsec.out
          have Hfd : Hid ((bFlat v).down = false) := Hflat.out.2.2.1
          have Hfp : Hid ((bFlat v).pend = []) := Hflat.out.2.1
          have Hus : Hid ((bUp v zs).sectors = n) := Hup.out.2.2.1.trans Hsec.out
          have Hud : Hid ((bUp v zs).down = false) := Hup.out.2.1
          have Hupp : Hid ((bUp v zs).pend = []) := Hup.out.1
          have Hur : Hid (∀ i : Int, vDur (bUp v zs) i = vDur (bFlat v) i) := Hup.out.2.2.2
          have Hust : Hid (bUp v zs = vStart { bFlat v with down := true } zs) := rfl
          clear ho7 Ho6 Hv0 Hpr Hvp Hpb Hflat Hup Hsec Hc0
          generalize bUp v zs = vu at *
          generalize bFlat v = vf at *
          obtain ⟨i0, hi, hz0, hz1, hz2⟩ := info_parts infoS
          have Hi := Lib.hid (And.intro hi (And.intro hz0 (And.intro hz1 hz2)))
          clear hi hz0 hz1 hz2
          go_wp2_with fail
          go_loopw [11, 12] (fun o i wr => ∃ k : Nat, k ≤ n ∧ i = .int .i64 k ∧ Own0 w (Sep (VolH b mb vf) (RowH o (durs vf k))) wr) (fun _ i _ => n - (intOf i).toNat)
          case atStart => exact ⟨0, by omega, rfl, Ho7.out.addRow (volH_stab _ _ _)⟩
          case round =>
            obtain ⟨k, hkn, rfl, hor⟩ := hrel
            obtain ⟨po, pc, rfl⟩ := own_succ' hor.rowOf
            rw [durs_length] at hor ⊢
            have Hor := Lib.hid hor
            clear hor
            go_wp2_with fail
            refine ((len_m b mb vf).L (rowH_stab _ _) |>.own Hor.out).mono ?_
            rw [Hfs.out]
            rintro e w8 ⟨rfl, ho8⟩
            have Ho8 := Lib.hid ho8
            clear ho8
            by_cases hlt : k < n
            · have hrd := read_m b mb vf k (by rw [Hfp.out]; simp)
              rw [read_flat Hfp.out Hfd.out k (by rw [Hfs.out]; omega)] at hrd
              have Hrd := Lib.hid hrd
              clear hrd
              go_wp2_with fail
              refine (Hrd.out.L (rowH_stab _ _) |>.own Ho8.out).mono ?_
              rintro e w9 ⟨rfl, ho9⟩
              have Ho9 := Lib.hid ho9
              clear ho9 Hrd
              have Hrow : Hid (w9.ownsRow 0 9 1 (.slice po k pc) k (scells (durs vf k))) := by have := Ho9.out.rowOf; rw [durs_length] at this; exact this
              go_wp2_with (at_builtin; refine wpList_append2 _ rfl _ _ 40 rfl 9 i0 _ 1 16 Try.underlying40 Hi.out.1 Hi.out.2.1 Hi.out.2.2.1 Hi.out.2.2.2 rfl (by decide) _ _ _ rfl (Hrow.out.alloc _) ⟨w9.heap.size, 0, none⟩ 1 1 [.string (vDur vf k)] rfl rfl (one_news _ _ _) (one_str _) (by decide) ?c3 ?c4 ?_)
              case c3 => unfold maxLen; omega
              case c4 => omega
              intro g cap wa hoa hga hfa
              have hka : Keep (Value.slice po k pc).ownBlock.toList w9 wa := (Keep.alloc _ _ _).trans (Keep.grown hga (fun k hk => by rw [hk]; simp)) (fun x hx => .inl hx)
              have hgr := Own0.grow (x := vDur vf k) (g := g) (cap := cap) (volH_stab _ _ _) Ho9.out hka (by rw [durs_length]; exact hoa) (hfa.imp id (fun h => Nat.le_of_succ_le h))
              rw [durs_length, ← durs_succ] at hgr
              have Hgr := Lib.hid hgr
              clear hgr hka hfa hga hoa
              go_wp2_with fail
              go_roundw
              case rel => exact ⟨k + 1, by omega, by go_num, Hgr.out⟩
              case measure => simp [intOf]; omega
            · obtain rfl : k = n := by omega
              go_wp2_with fail
              refine ((crash_m b mb vf).L (rowH_stab _ _) |>.own Ho8.out).mono ?_
              rintro e w9 ⟨rfl, ho9⟩
              have Ho9 := Lib.hid ho9
              clear ho9
              have hms : MetAt Try.prog 22 #[.pointer (some ⟨b, 0, none⟩), .slice to zs.length tc] (.tuple #[]) (VolH b mb { vf with down := true }) (VolH b mb vu) w9 w.heap.size := fun F hF _ => by
                rw [Hust.out]
                exact start_m b mb { vf with down := true } _ zs (by rw [show ({ vf with down := true } : Vol).pend = [] from Hfp.out]; simp) (by omega) (by rw [show ({ vf with down := true } : Vol).pend = [] from Hfp.out]; simp) _ F hF (Hz.out _ Ho9.out)
              have Hms := Lib.hid hms
              clear hms
              go_wp2_with fail
              refine ((Hms.out.L (rowH_stab _ _)).own Ho9.out).mono ?_
              rintro e wb ⟨rfl, hob⟩
              have Hob := Lib.hid hob
              clear hob Hms Ho9 Ho8
              go_wp2_with fail
              go_loopw [15] (fun i wr => ∃ j : Nat, j ≤ k ∧ i = .int .i64 j ∧ Own0 w (Sep (VolH b mb vu) (RowH (.slice po k pc) (durs vf k))) wr) (fun i _ => k - (intOf i).toNat)
              case atStart => exact ⟨0, by omega, rfl, Hob.out⟩
              case round =>
                obtain ⟨j, hj, rfl, hoj⟩ := hrel
                have Hoj := Lib.hid hoj
                clear hoj
                by_cases hjl : j < k
                · have hrd := read_m b mb vu j (by rw [Hupp.out]; simp)
                  rw [read_flat Hupp.out Hud.out j (by rw [Hus.out]; omega), Hur.out] at hrd
                  have Hrd := Lib.hid hrd
                  clear hrd
                  go_wp2_with fail
                  refine (Hrd.out.L (rowH_stab _ _) |>.own Hoj.out).mono ?_
                  rintro e wc ⟨rfl, hoc⟩
                  obtain ⟨g, rfl, hgc, hgl⟩ := rowElem hoc.rowOf j (by rw [durs_length]; exact hjl)
                  rw [durs_get] at hgc
                  have hxx : ((vDur vf j).toList == (vDur vf j).toList) = true := beq_self_eq_true _
                  have Hoc := Lib.hid hoc
                  clear hoc Hrd
                  go_wp2_with fail
                  go_roundw
                  case rel => exact ⟨j + 1, by omega, by go_num, Hoc.out⟩
                  case measure => simp [intOf]; omega
                · obtain rfl : j = k := by omega
                  go_wp2_with fail
                  refine (Hs.out _).mono ?_
                  rintro e wd ⟨rfl, rfl⟩
                  go_wp2_with fail
                  go_returns
                  exact ⟨by simp, Hoj.out.below⟩
        · have hd2 : decide ((k : Int) < 40) = false := by simp; omega
          have hlk : k < os.length := by simpa using hd1
          go_wp2_with fail
          refine (MetAt.own (A' := VolH b mb (vStart v [])) (fun F hF _ => start_m b mb v (.slice none 0 0) [] Hpr.out (by simp) Hvp.out _ F hF (.inl ⟨none, 0, rfl, rfl⟩)) Hv0.out).mono ?_
          rintro e w5 ⟨rfl, ho5⟩
          try clear hd2
          clear hd1 hge
          have Ho5 := Lib.hid ho5
          clear ho5
          go_wp2_with fail
          refine ((limit_m b mb (vStart v []) 1).own Ho5.out).mono ?_
          rintro e w6 ⟨rfl, ho6⟩
          have Ho6 : Hid (Own0 w (VolH b mb (bLim v)) w6) := ho6
          clear ho6 Ho5
          go_wp2_with fail
          refine ((barrier_m b mb (bLim v) Hpb.out).own Ho6.out).mono ?_
          rw [Hflat.out.1]
          rintro e w7 ⟨rfl, ho7⟩
          have Ho7 : Hid (Own0 w (VolH b mb (bFlat v)) w7) := ho7
          have Hfs : Hid ((bFlat v).sectors = n) := Hflat.out.2.2.2.trans Hsec.out
          have Hfd : Hid ((bFlat v).down = false) := Hflat.out.2.2.1
          have Hfp : Hid ((bFlat v).pend = []) := Hflat.out.2.1
          have Hus : Hid ((bUp v zs).sectors = n) := Hup.out.2.2.1.trans Hsec.out
          have Hud : Hid ((bUp v zs).down = false) := Hup.out.2.1
          have Hupp : Hid ((bUp v zs).pend = []) := Hup.out.1
          have Hur : Hid (∀ i : Int, vDur (bUp v zs) i = vDur (bFlat v) i) := Hup.out.2.2.2
          have Hust : Hid (bUp v zs = vStart { bFlat v with down := true } zs) := rfl
          clear ho7 Ho6 Hv0 Hpr Hvp Hpb Hflat Hup Hsec Hc0
          generalize bUp v zs = vu at *
          generalize bFlat v = vf at *
          obtain ⟨i0, hi, hz0, hz1, hz2⟩ := info_parts infoS
          have Hi := Lib.hid (And.intro hi (And.intro hz0 (And.intro hz1 hz2)))
          clear hi hz0 hz1 hz2
          go_wp2_with fail
          go_loopw [11, 12] (fun o i wr => ∃ k : Nat, k ≤ n ∧ i = .int .i64 k ∧ Own0 w (Sep (VolH b mb vf) (RowH o (durs vf k))) wr) (fun _ i _ => n - (intOf i).toNat)
          case atStart => exact ⟨0, by omega, rfl, Ho7.out.addRow (volH_stab _ _ _)⟩
          case round =>
            obtain ⟨k, hkn, rfl, hor⟩ := hrel
            obtain ⟨po, pc, rfl⟩ := own_succ' hor.rowOf
            rw [durs_length] at hor ⊢
            have Hor := Lib.hid hor
            clear hor
            go_wp2_with fail
            refine ((len_m b mb vf).L (rowH_stab _ _) |>.own Hor.out).mono ?_
            rw [Hfs.out]
            rintro e w8 ⟨rfl, ho8⟩
            have Ho8 := Lib.hid ho8
            clear ho8
            by_cases hlt : k < n
            · have hrd := read_m b mb vf k (by rw [Hfp.out]; simp)
              rw [read_flat Hfp.out Hfd.out k (by rw [Hfs.out]; omega)] at hrd
              have Hrd := Lib.hid hrd
              clear hrd
              go_wp2_with fail
              refine (Hrd.out.L (rowH_stab _ _) |>.own Ho8.out).mono ?_
              rintro e w9 ⟨rfl, ho9⟩
              have Ho9 := Lib.hid ho9
              clear ho9 Hrd
              have Hrow : Hid (w9.ownsRow 0 9 1 (.slice po k pc) k (scells (durs vf k))) := by have := Ho9.out.rowOf; rw [durs_length] at this; exact this
              go_wp2_with (at_builtin; refine wpList_append2 _ rfl _ _ 40 rfl 9 i0 _ 1 16 Try.underlying40 Hi.out.1 Hi.out.2.1 Hi.out.2.2.1 Hi.out.2.2.2 rfl (by decide) _ _ _ rfl (Hrow.out.alloc _) ⟨w9.heap.size, 0, none⟩ 1 1 [.string (vDur vf k)] rfl rfl (one_news _ _ _) (one_str _) (by decide) ?c3 ?c4 ?_)
              case c3 => unfold maxLen; omega
              case c4 => omega
              intro g cap wa hoa hga hfa
              have hka : Keep (Value.slice po k pc).ownBlock.toList w9 wa := (Keep.alloc _ _ _).trans (Keep.grown hga (fun k hk => by rw [hk]; simp)) (fun x hx => .inl hx)
              have hgr := Own0.grow (x := vDur vf k) (g := g) (cap := cap) (volH_stab _ _ _) Ho9.out hka (by rw [durs_length]; exact hoa) (hfa.imp id (fun h => Nat.le_of_succ_le h))
              rw [durs_length, ← durs_succ] at hgr
              have Hgr := Lib.hid hgr
              clear hgr hka hfa hga hoa
              go_wp2_with fail
              go_roundw
              case rel => exact ⟨k + 1, by omega, by go_num, Hgr.out⟩
              case measure => simp [intOf]; omega
            · obtain rfl : k = n := by omega
              go_wp2_with fail
              refine ((crash_m b mb vf).L (rowH_stab _ _) |>.own Ho8.out).mono ?_
              rintro e w9 ⟨rfl, ho9⟩
              have Ho9 := Lib.hid ho9
              clear ho9
              have hms : MetAt Try.prog 22 #[.pointer (some ⟨b, 0, none⟩), .slice to zs.length tc] (.tuple #[]) (VolH b mb { vf with down := true }) (VolH b mb vu) w9 w.heap.size := fun F hF _ => by
                rw [Hust.out]
                exact start_m b mb { vf with down := true } _ zs (by rw [show ({ vf with down := true } : Vol).pend = [] from Hfp.out]; simp) (by omega) (by rw [show ({ vf with down := true } : Vol).pend = [] from Hfp.out]; simp) _ F hF (Hz.out _ Ho9.out)
              have Hms := Lib.hid hms
              clear hms
              go_wp2_with fail
              refine ((Hms.out.L (rowH_stab _ _)).own Ho9.out).mono ?_
              rintro e wb ⟨rfl, hob⟩
              have Hob := Lib.hid hob
              clear hob Hms Ho9 Ho8
              go_wp2_with fail
              go_loopw [15] (fun i wr => ∃ j : Nat, j ≤ k ∧ i = .int .i64 j ∧ Own0 w (Sep (VolH b mb vu) (RowH (.slice po k pc) (durs vf k))) wr) (fun i _ => k - (intOf i).toNat)
              case atStart => exact ⟨0, by omega, rfl, Hob.out⟩
              case round =>
                obtain ⟨j, hj, rfl, hoj⟩ := hrel
                have Hoj := Lib.hid hoj
                clear hoj
                by_cases hjl : j < k
                · have hrd := read_m b mb vu j (by rw [Hupp.out]; simp)
                  rw [read_flat Hupp.out Hud.out j (by rw [Hus.out]; omega), Hur.out] at hrd
                  have Hrd := Lib.hid hrd
                  clear hrd
                  go_wp2_with fail
                  refine (Hrd.out.L (rowH_stab _ _) |>.own Hoj.out).mono ?_
                  rintro e wc ⟨rfl, hoc⟩
                  obtain ⟨g, rfl, hgc, hgl⟩ := rowElem hoc.rowOf j (by rw [durs_length]; exact hjl)
                  rw [durs_get] at hgc
                  have hxx : ((vDur vf j).toList == (vDur vf j).toList) = true := beq_self_eq_true _
                  have Hoc := Lib.hid hoc
                  clear hoc Hrd
                  go_wp2_with fail
                  go_roundw
                  case rel => exact ⟨j + 1, by omega, by go_num, Hoc.out⟩
                  case measure => simp [intOf]; omega
                · obtain rfl : j = k := by omega
                  go_wp2_with fail
                  refine (Hs.out _).mono ?_
                  rintro e wd ⟨rfl, rfl⟩
                  go_wp2_with fail
                  go_returns
                  exact ⟨by simp, Hoj.out.below⟩
  · have hz50' : 50 < zs.length := by omega
    go_enter Try.func7, Try.ntmps7
    go_wp2_with fail
    refine (Hs.out _).mono ?_
    rintro e w1 ⟨rfl, rfl⟩
    go_wp2_with fail
    refine (new_o n w (by omega) (by omega)).mono ?_
    rintro e w1 ⟨rfl, hv1, hk1⟩
    have O1 := Lib.hid (Own0.first (w0 := w) hv1 (by simp) hk1)
    clear hv1 hk1
    generalize w.heap.size + 1 = b at *
    generalize hmb : w.heap.size = mb at *
    have Hmb := Lib.hid hmb
    clear hmb
    go_wp2_with fail
    refine (known_c w1).mono ?_
    rintro e w2 ⟨rfl, hb2⟩
    have O2 := Lib.hid (keepOwn (volH_stab _ _ _) O1.out hb2)
    clear hb2 O1
    go_wp2_with fail
    refine (known_c w2).mono ?_
    rintro e w3 ⟨rfl, hb3⟩
    have O3 := Lib.hid (keepOwn (volH_stab _ _ _) O2.out hb3)
    clear hb3 O2
    go_wp2_with fail
    go_returns
    exact ⟨rfl, O3.out.below⟩
/-! ### frame -/
open Go.ChangeShapes Go.WideShapes Go.ChangeAt
open Go.ChangeMaps (open_string shut_string)
theorem volumeBarriers_walk (a0 : Int) (w0 : (Lit.int .u8 a0).wf = true) (v1 : Value) (v2 : Value) (w : World) (m1 : OpsArg w v1) (m2 : BytesArg w v2) :
    Calls Try.prog 7 #[.int .u8 a0, v1, v2] w fun e w' => e = .returned (.bool true) ∧ Below w.heap.size w w' := by
  obtain ⟨os, h⟩ := m1
  obtain ⟨zs, hz, hl⟩ := m2
  exact barriers a0 v1 v2 os zs (Go.bounds_u8 w0) w h hz hl
theorem volumeBarriers_own : ownKnob Try.prog.godebug = none := by kernel_rfl
theorem volumeBarriers_laidOut : laidOutB Try.prog = true := by kernel_rfl
set_option maxRecDepth 100000 in
theorem volumeBarriers_lifted (os : Os) (started : os.Started) (H : Type) (enc : TypeId × Value → H) :
    ReturnsInHanded {} Try.checked os 7 .any (Rows.volumeBarriersSpec.pre6 enc Try.prog Try.f7 Rows.volumeBarriersRow.domain false) (Rows.volumeBarriersSpec.post enc Try.prog Try.f7 false true false false) := by
  refine returnsInHanded_of_change (C := Try.checked) volumeBarriers_own started (by kernel_rfl) Try.func7
    (ChangeSpec.witness6 (enc := enc) (C := Try.checked) false ⟨#[], #[.int .u8 0, .slice none 0 0, .slice none 0 0], []⟩ 8 (by kernel_rfl) (by kernel_rfl) (by kernel_rfl) (by kernel_rfl)) ?_
  intro W base args ds gs before hval0 hW hcnd _
  have hval : ∀ (j : Nat) t v, Try.f7.params[j]? = some t → args[j]? = some v → Value.okWide Try.prog W .any base t v := hval0
  have hW' := hW
  obtain ⟨p, q, hA0, hV, rfl, hfz, hnd⟩ := hW
  have hA : DataW.TrodAll enc Try.prog W 0 (fun _ => true) true Try.f7.params.toList args.toList ds p := hA0
  rw [Try.params7] at hA hval
  obtain ⟨v0, vs0, d0, ds0, p0, q0, hargs, rfl, rfl, h0, r0⟩ := trodAll_cons hA
  obtain ⟨v1, vs1, d1, ds1, p1, q1, rfl, rfl, rfl, h1, r1⟩ := trodAll_cons r0
  obtain ⟨v2, vs2, d2, ds2, p2, q2, rfl, rfl, rfl, h2, r2⟩ := trodAll_cons r1
  obtain ⟨rfl, rfl, rfl⟩ := trodAll_nil r2
  obtain rfl : args = #[v0, v1, v2] := by cases args; simp_all
  obtain ⟨rfl, rfl⟩ := trodVars_none hV
  have k0 := h0
  have lt0 : ∀ x ∈ p0, x.block < W.heap.size := by obtain ⟨m, hm⟩ := k0; exact DataW.trod_lt m _ _ _ hm
  have k1 := h1
  have lt1 : ∀ x ∈ p1, x.block < W.heap.size := by obtain ⟨m, hm⟩ := k1; exact DataW.trod_lt m _ _ _ hm
  have k2 := h2
  have lt2 : ∀ x ∈ p2, x.block < W.heap.size := by obtain ⟨m, hm⟩ := k2; exact DataW.trod_lt m _ _ _ hm
  obtain ⟨a0, rfl, rfl, rfl, w0⟩ := open_int Try.underlying5 (hval 0 5 v0 rfl rfl) h0
  have m1 : OpsArg W v1 := OpsArg_open (hval 1 26 v1 rfl rfl) h1
  have m2 : BytesArg W v2 := BytesArg_open (hval 2 36 v2 rfl rfl) h2
  clear hA0 hval0
  refine (volumeBarriers_walk a0 w0 v1 v2 W m1 m2).mono fun e W' ⟨he, bel⟩ => ?_
  subst he
  exact ⟨_, rfl, _, _, _, [], _, [], hW', trodAll_mk1 (shut_bool Try.underlying4 _), (trodAll_cons_mk (Below.trod volumeBarriers_laidOut (by kernel_rfl) (of_decide_eq_true (by kernel_rfl)) k0 bel lt0) (trodAll_cons_mk (Below.trod volumeBarriers_laidOut (by kernel_rfl) (of_decide_eq_true (by kernel_rfl)) k1 bel lt1) (trodAll_cons_mk (Below.trod volumeBarriers_laidOut (by kernel_rfl) (of_decide_eq_true (by kernel_rfl)) k2 bel lt2) trodAll_mk0))), rfl, bel.frame _, fun h => by cases h⟩
theorem volumeBarriers_over : Rows.volumeBarriersRow.holds Try.pinned (OpenSpec.ofChange Rows.volumeBarriersSpec) :=
  OpenClaim.holds_of_wide 7 Try.f7 rfl rfl rfl rfl rfl rfl rfl ⟨rfl, rfl, rfl, rfl, rfl⟩ rfl rfl rfl rfl rfl (by kernel_rfl) Try.func7 (by kernel_rfl)
    (of_decide_eq_true (by kernel_rfl)) (by unfold Func.isWrapper; first | (rw [if_pos (by decide +kernel)]; kernel_rfl) | (rw [if_neg (by decide +kernel)]; exact ⟨rfl, rfl⟩))
    (fun os started H enc _ => volumeBarriers_lifted os started H enc)
/-- The statement. -/
theorem volumeBarriers_proved : Rows.VolumeBarriersSaid := volumeBarriers_over
#print axioms volumeBarriers_proved
end Go.Proofs.Ytombldjaipcloaa
