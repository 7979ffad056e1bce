/- Open. -/
import Derived.Test.YtgmggmpkbfljfaaPa
import Derived.Test.YtgmggmpkbfljfaaFm
set_option linter.unusedVariables false
set_option linter.unusedSimpArgs false
set_option maxRecDepth 100000
namespace Go.Proofs.Ytgmggmpkbfljfaa
open Go.RowKit
theorem open_e (w : World) (b mb : Nat) (pv : Value) (v : Vol) (hv : VolAt w b mb pv v) (hck : jCheck v ≠ 0) :
    Calls Try.prog 26 #[.pointer (some ⟨b, 0, none⟩)] w fun e w' => e = .returned (.tuple #[.pointer none, .int .i64 (jCheck v)]) ∧ w' = w := by
  have HC := Lib.hid (jcheck_c w b mb pv v hv)
  have hne : (jCheck v != 0) = true := by rw [bne_iff_ne]; exact hck
  clear hck hv
  generalize jCheck v = ck at *
  go_enter Try.func26, Try.ntmps26
  go_wp2_with fail
  refine HC.out.mono ?_
  rintro e w' ⟨rfl, rfl⟩
  dsimp only
  go_wp2_with fail
  go_ret2
  exact ⟨rfl, rfl⟩
theorem jcheck_ok (v : Vol) (hd : v.down = false) (hs : 2 < v.sectors) : jCheck v = 0 := by
  unfold jCheck; rw [hd, if_neg (by decide), if_neg (by omega)]
theorem open_v (w : World) (b mb : Nat) (pv : Value) (v : Vol) (hv : VolAt w b mb pv v) (hd : v.down = false) (hs : 2 < v.sectors) (hl : v.pend.length ≤ 4096) (hf : ReadFit v) (hn : pgTo v 2 = none) :
    Calls Try.prog 26 #[.pointer (some ⟨b, 0, none⟩)] w fun e w' => e = .returned (.tuple #[.pointer none, .int .i64 23]) ∧ Keep [] w w' := by
  have HC := Lib.hid (jcheck_c w b mb pv v hv)
  rw [jcheck_ok v hd hs] at HC
  have HN := newest_c w b mb pv v hv hl hd (by omega) hf
  rw [hn] at HN
  have HN := Lib.hid HN
  clear hv hf hn
  simp only [Option.getD_none, pg0, pgA, Option.isSome_none] at HN
  go_enter Try.func26, Try.ntmps26
  go_wp2_with fail
  refine HC.out.mono ?_
  rintro e w' ⟨rfl, rfl⟩
  dsimp only
  go_wp2_with fail
  refine HN.out.mono ?_
  rintro e w1 ⟨rfl, hk1⟩
  dsimp only
  have Hk1 := Lib.hid hk1
  clear hk1
  go_wp2_with fail
  go_ret2
  exact ⟨rfl, Hk1.out.allocPast _⟩
def rdAt (v : Vol) (R base i : Nat) : ByteArray := (vRead v ((2 + (base + i) % R : Nat) : Int)).1
def encG (x : Nat × List ByteArray) : ByteArray := encS x.1 x.2
/-- What is needed for opening: the newest page, and the groups that it tells of. -/
structure OpenFit (v : Vol) (R : Nat) (p : Pg) (Gs : List (Nat × List ByteArray)) : Prop where
  down : v.down = false
  secs : v.sectors = R + 2
  r0 : 0 < R
  r9 : R ≤ 900
  pend : v.pend.length ≤ 4096
  rd : ReadFit v
  pg : pgTo v 2 = some p
  kR : p.k ≤ R
  g6 : p.g ≤ 1000000
  f6 : p.f ≤ 1000000
  p6 : p.p ≤ 1000000
  data : catS ((List.range p.k).map (rdAt v R p.p)) = catS (Gs.map encG)
  size : ∀ i, i < p.k → (rdAt v R p.p i).size = 128
  small : ∀ x ∈ Gs, x.2.length ≤ 256 ∧ ∀ r ∈ x.2, r.size ≤ 16384
theorem isBuilder_keep {T e : TypeId} {B b : Nat} {bs : List Value} {w w' : World} (h : Lib.IsBuilder T e B b bs w) (hk : Keep [] w w') : Lib.IsBuilder T e B b bs w' := by
  have aux : ∀ p, Lib.BuilderAt T e B b p bs w → Lib.BuilderAt T e B b p bs w' := by
    rintro p ⟨hB, v, hb, ho, hne⟩
    refine ⟨hB, v, hk.heap hb (by simp), ⟨ho.1, ?_⟩, hne⟩
    rcases ho.2 with h | ⟨g, cap, cur, hv, hg, hh, rest⟩
    · exact .inl h
    · exact .inr ⟨g, cap, cur, hv, hg, hk.heap hh (by simp), rest⟩
  exact h.imp (aux _) (aux _)
theorem cat_range (f : Nat → ByteArray) (k : Nat) : catS ((List.range (k + 1)).map f) = catS ((List.range k).map f) ++ f k := by
  rw [List.range_succ, List.map_append, List.map_cons, List.map_nil, catS_snoc]
theorem cat_range_size (f : Nat → ByteArray) (n : Nat) (h : ∀ i, i < n → (f i).size = 128) : ∀ k, k ≤ n → (catS ((List.range k).map f)).size = k * 128
  | 0, _ => by simp [catS]; rfl
  | k + 1, hk => by rw [cat_range, ByteArray.size_append, cat_range_size f n h k (by omega), h k (by omega)]; omega
theorem keep_ge {B : Nat} {w w' : World} (h : Below B w w') : Keep (List.range' B (w.heap.size - B)) w w' :=
  ⟨h.os, h.tape, h.output, h.size, fun k hk hn => h.block k (by
    rcases Nat.lt_or_ge k B with h1 | h1
    · exact h1
    · exact absurd (List.mem_range'_1.2 ⟨h1, by omega⟩) hn)⟩
theorem Stab.below {A : HP} (hA : Stab A) {w w' : World} {F : List Nat} {B : Nat} (h : A w F) (hb : Below B w w') (hF : ∀ x ∈ F, x < B) : A w' F :=
  hA.keep h (keep_ge hb) (fun x hx hm => by have := hF x hx; have := (List.mem_range'_1.1 hm).1; omega)
theorem cat_drop_le (L : List ByteArray) (j : Nat) : (catS (L.drop j)).size ≤ (catS L).size := by
  have := congrArg (fun x => (catS x).size) (List.take_append_drop j L)
  simp only [catS_app, ByteArray.size_append] at this
  omega
theorem JS.parsed {jb vb : Nat} {p : Pg} {br : Bool} {gv pv : Value} {G : GL} {gv' pv'' : Value} {G' : GL} {l' : List ByteArray} {w w' : World} {F : List Nat} (h : JS jb vb p br gv pv G gv' (.slice none 0 0) G' [] w F)
    (ht : To (OwnH 9 1 pv'' l'.length (scells l')) [] w w') : To (JS jb vb p br gv pv G gv' pv'' G' l') F w w' :=
  h.setPend fun F hF => by obtain ⟨_, rfl⟩ := hF; exact ht
theorem cat_enc_len : ∀ Gs : List (Nat × List ByteArray), Gs.length * 128 ≤ (catS (Gs.map encG)).size
  | [] => by simp
  | x :: Gs => by
    have h1 := cat_enc_len Gs
    have h2 : (encG x).size = secsN x.2 * 128 := encS_size _ _
    have h3 : 1 ≤ secsN x.2 := by unfold secsN; omega
    show _ ≤ (encG x ++ catS (Gs.map encG)).size
    rw [ByteArray.size_append, List.length_cons]
    omega
set_option maxHeartbeats 8000000 in
theorem open_c (w : World) (F : List Nat) (vb mb : Nat) (v : Vol) (R : Nat) (p : Pg) (Gs : List (Nat × List ByteArray)) (hF : VolH vb mb v w F) (ho : OpenFit v R p Gs) :
    Calls Try.prog 26 #[.pointer (some ⟨vb, 0, none⟩)] w fun e w' => ∃ jb, e = .returned (.tuple #[.pointer (some ⟨jb, 0, none⟩), .int .i64 0]) ∧ To (JH jb vb ⟨p, Gs.map (·.2), [], false⟩) [] w w' := by
  have HF := Lib.hid hF
  obtain ⟨pv, hv, hFe⟩ := hF
  have HC := Lib.hid (jcheck_c w vb mb pv v hv)
  rw [jcheck_ok v ho.down (by rw [ho.secs]; have := ho.r0; omega)] at HC
  have HN := newest_c w vb mb pv v hv ho.pend ho.down (by rw [ho.secs]; omega) ho.rd
  rw [ho.pg] at HN
  obtain ⟨pg, pf, pp, pk⟩ := p
  simp only [Option.getD_some, pgA, Option.isSome_some] at HN
  have HN := Lib.hid HN
  obtain ⟨odn, osec, hR0, hR9, opn, ord, opg, hkR, hg6, hf6, hp6, odata, osz, osm⟩ := ho
  dsimp only at hkR hg6 hf6 hp6 odata osz
  have Hdata := Lib.hid odata
  have Hsz := Lib.hid osz
  have Hsm := Lib.hid osm
  have Hsec := Lib.hid osec
  have Hpn := Lib.hid opn
  have Hdn := Lib.hid odn
  clear odn osec opn ord opg odata osz osm hv hFe
  go_enter Try.func26, Try.ntmps26
  go_wp2_with fail
  refine HC.out.mono ?_
  rintro e w' ⟨rfl, rfl⟩
  dsimp only
  go_wp2_with fail
  refine HN.out.mono ?_
  rintro e w1 ⟨rfl, hk1⟩
  dsimp only
  have Hk1 := Lib.hid hk1
  clear hk1
  go_wp2_with fail
  have hB1 := heap_old (o := .cells #[.pointer none, .slice none 0 0] 93) (heap_old (o := .cells (jcells vb ⟨pg, pf, pp, pk⟩ (.slice none 0 0) (.slice none 0 0) false) 76) (World.alloc_heap_new w1 (.cells #[.int .i64 pg, .int .i64 pf, .int .i64 pp, .int .i64 pk] 73)))
  have hB2 := heap_old (o := .cells #[.pointer none, .slice none 0 0] 93) (World.alloc_heap_new (w1.alloc (.cells #[.int .i64 pg, .int .i64 pf, .int .i64 pp, .int .i64 pk] 73)) (.cells (jcells vb ⟨pg, pf, pp, pk⟩ (.slice none 0 0) (.slice none 0 0) false) 76))
  have hB3 := Lib.fresh_isBuilder 93 5 ((w1.alloc (.cells #[.int .i64 pg, .int .i64 pf, .int .i64 pp, .int .i64 pk] 73)).alloc (.cells (jcells vb ⟨pg, pf, pp, pk⟩ (.slice none 0 0) (.slice none 0 0) false) 76))
  have hkb : Keep [] w1 (((w1.alloc (.cells #[.int .i64 pg, .int .i64 pf, .int .i64 pp, .int .i64 pk] 73)).alloc (.cells (jcells vb ⟨pg, pf, pp, pk⟩ (.slice none 0 0) (.slice none 0 0) false) 76)).alloc (.cells #[.pointer none, .slice none 0 0] 93)) := (((Keep.refl _ _).allocPast _).allocPast _).allocPast _
  have hsz1 : (w1.alloc (.cells #[.int .i64 pg, .int .i64 pf, .int .i64 pp, .int .i64 pk] 73)).heap.size = w1.heap.size + 1 := by simp
  have hsz2 : ((w1.alloc (.cells #[.int .i64 pg, .int .i64 pf, .int .i64 pp, .int .i64 pk] 73)).alloc (.cells (jcells vb ⟨pg, pf, pp, pk⟩ (.slice none 0 0) (.slice none 0 0) false) 76)).heap.size = w1.heap.size + 1 + 1 := by simp
  rw [hsz1] at hB2
  rw [hsz2] at hB3
  simp only [jcells] at hB1 hB2 hB3 hkb
  clear hsz1 hsz2
  generalize (((w1.alloc (.cells #[.int .i64 pg, .int .i64 pf, .int .i64 pp, .int .i64 pk] 73)).alloc (.cells #[.pointer (some ⟨vb, 0, none⟩), .int .i64 pg, .int .i64 pf, .int .i64 pp, .int .i64 pk, .slice none 0 0, .slice none 0 0, .bool false] 76)).alloc (.cells #[.pointer none, .slice none 0 0] 93)) = wb at *
  generalize hB0 : w1.heap.size = B0 at *
  have HB1 := Lib.hid hB1
  have HB2 : Hid (wb.heap[B0 + 1]? = some (.cells (jcells vb ⟨pg, pf, pp, pk⟩ (.slice none 0 0) (.slice none 0 0) false) 76 (0, 0))) := hB2
  have HB3 := Lib.hid hB3
  have Hkb := Lib.hid (Hk1.out.trans0 hkb)
  have HVb := Lib.hid ((volH_stab vb mb v).keep HF.out Hkb.out (by simp))
  have HB0 : Hid (w1.heap.size = B0) := hB0
  clear hB1 hB2 hB3 hkb
  have hbx : ∀ n : KW wb, ∀ i, (Wk wb n).cell? ⟨B0, i, none⟩ = #[.int .i64 pg, .int .i64 pf, .int .i64 pp, .int .i64 pk][i]? := fun n => cell_of (n.k.heap HB1.out (by simp))
  have hx3 := fun n => hbx n 3
  simp only [List.getElem?_toArray, List.getElem?_cons_zero, List.getElem?_cons_succ] at hx3
  clear hbx
  have HRing : Hid (∀ n : KW wb, Calls Try.prog 43 #[.pointer (some ⟨B0 + 1, 0, none⟩)] (Wk wb n) fun e w' => e = .returned (.int .i64 R) ∧ ∃ m, w' = Wk wb m) := fun n => by
    obtain ⟨pw, hva, _⟩ := HVb.out
    exact (ring_c (Wk wb n) (B0 + 1) vb mb ⟨pg, pf, pp, pk⟩ (.slice none 0 0) (.slice none 0 0) pw false v R (n.k.heap HB2.out (by simp)) (hva.keep n.k (by simp) (by simp) (by simp)) Hsec.out (by omega)).mono fun e w' h => ⟨h.1, n, h.2⟩
  have hmin : min (pk : Int) (R : Int) = pk := by omega
  refine wp_region_keep (by kernel_rfl) (by kernel_rfl) ?_
  repeat (first
    | go_big_quiet_skip
    | (go_big_quiet_want; go_big_quiet_op; first | go_big_quiet_on | go_big_quiet_call (first
      | (go_at_call 43; exact HRing.out _))))
  refine wpQuiet_nil ?_
  rintro w2 ⟨⟨_, hk2⟩, rfl⟩
  have HB1' := Lib.hid (hk2.heap HB1.out (by simp))
  have HB2' := Lib.hid (hk2.heap HB2.out (by simp))
  have HB3' := Lib.hid (isBuilder_keep HB3.out hk2)
  have HV2 := Lib.hid ((volH_stab vb mb v).keep HVb.out hk2 (by simp))
  have Hk2 := Lib.hid (Hkb.out.trans0 hk2)
  clear hk2 hx3 HRing
  have hFlt : ∀ x ∈ F, x < B0 := fun x hx => by
    have h1 := (volH_stab vb mb v).lt HF.out x hx
    have h2 := Hk1.out.size
    have h3 := HB0.out
    omega
  have HFlt := Lib.hid hFlt
  clear hFlt
  go_wp2_with fail
  go_loopw [35] (fun i wr => ∃ k : Nat, k ≤ pk ∧ i = .int .i64 k ∧ Lib.IsBuilder 93 5 (B0 + 1 + 1) (B0 + 1 + 1) (Lib.strCells (catS ((List.range k).map (rdAt v R pp)))) wr ∧ Below (B0 + 1 + 1) w2 wr) (fun i _ => pk - (intOf i).toNat)
  case atStart => exact ⟨0, by omega, rfl, HB3'.out, Below.refl _ _⟩
  case round =>
    obtain ⟨k, hk, rfl, hbl, hbe⟩ := hrel
    have Hbl := Lib.hid hbl
    have Hbe := Lib.hid hbe
    have h1r := hbe.block B0 (by omega)
    rw [HB1'.out] at h1r
    have h2r := hbe.block (B0 + 1) (by omega)
    rw [HB2'.out] at h2r
    have hVr := (volH_stab vb mb v).below HV2.out hbe (fun x hx => by have := HFlt.out x hx; omega)
    have H1r := Lib.hid h1r
    have H2r := Lib.hid h2r
    have HVr := Lib.hid hVr
    have hsk := cat_range_size (rdAt v R pp) pk Hsz.out k hk
    clear hbl hbe h1r h2r hVr
    by_cases hlt : k < pk
    · have hc0 := cell_of H1r.out
      have hlt3 : B0 + 1 < wr.heap.size := lt_of_heap H2r.out
      have hB3 : B0 + 1 + 1 < wr.heap.size := by
        rcases Hbl.out with h | h <;> exact Lib.BuilderAt.lt h
      obtain ⟨pw, hva, hFe⟩ := HVr.out
      have HSec := Lib.hid (sector_c wr (B0 + 1) vb mb ⟨pg, pf, pp, pk⟩ (.slice none 0 0) (.slice none 0 0) pw false v R (pp + k) H2r.out hva Hsec.out (by omega) hR0 (by omega))
      have HRd := Lib.hid (read_c wr vb mb pw v ((2 + (pp + k) % R : Nat) : Int) hva Hpn.out)
      have hr2 : (vRead v ((2 + (pp + k) % R : Nat) : Int)).2 = 0 := by
        have := Nat.mod_lt (pp + k) hR0
        unfold vRead; rw [Hdn.out, if_neg (by decide), if_neg (by rw [Hsec.out]; omega)]
      rw [hr2] at HRd
      have hrs := Hsz.out k hlt
      have Hst : Hid (catS ((List.range (k + 1)).map (rdAt v R pp)) = catS ((List.range k).map (rdAt v R pp)) ++ (vRead v ((2 + (pp + k) % R : Nat) : Int)).1) := cat_range (rdAt v R pp) k
      change ((vRead v ((2 + (pp + k) % R : Nat) : Int)).1).size = 128 at hrs
      generalize (vRead v ((2 + (pp + k) % R : Nat) : Int)).1 = rd at *
      rw [show ((2 + (pp + k) % R : Nat) : Int) = 2 + ((pp : Int) + (k : Int)) % (R : Int) by push_cast; rfl] at HRd
      clear hva hFe hr2
      go_wp2_with fail
      refine HSec.out.mono ?_
      rintro e w3 ⟨rfl, hw3⟩
      dsimp only
      subst hw3
      go_wp2_with fail
      refine HRd.out.mono ?_
      rintro e w4 ⟨rfl, hk4⟩
      dsimp only
      have Hbl4 := Lib.hid (isBuilder_keep Hbl.out hk4)
      have Hk4 := Lib.hid hk4
      have hsz4 := hk4.size
      clear hk4
      go_wp2_with fail
      refine (writeString_c (B0 + 1 + 1) (B0 + 1 + 1) _ rd w4 Hbl4.out (by rw [Lib.strCells_length, hsk]; omega) (by omega)).mono ?_
      rintro e w5 ⟨rfl, h5, hb5⟩
      dsimp only
      have H5 := Lib.hid h5
      have Hb5 := Lib.hid hb5
      clear h5 hb5
      go_wp2_with fail
      go_roundw
      case rel => exact ⟨k + 1, by omega, by go_num, by rw [Hst.out, ← strCells_app]; exact Or.inr H5.out, (Hbe.out.trans (Hk4.out.below (by simp) (by omega))).trans Hb5.out⟩
      case measure => simp [intOf]; omega
    · obtain rfl : k = pk := by omega
      rw [Hdata.out] at hsk
      have hbl := Hbl.out
      rw [Hdata.out] at hbl
      have Hbl := Lib.hid hbl
      have hB3 : B0 + 1 + 1 < wr.heap.size := by
        rcases hbl with h | h <;> exact Lib.BuilderAt.lt h
      clear hbl
      go_wp2_with fail
      refine (Try.Builder_String_any (B0 + 1 + 1) (B0 + 1 + 1) (catS (Gs.map encG)).data.toList wr Hbl.out (by omega)).mono ?_
      rintro e w3 ⟨rfl, hb3⟩
      dsimp only
      have h13 := hb3.block B0 (by omega)
      rw [H1r.out] at h13
      have h23 := hb3.block (B0 + 1) (by omega)
      rw [H2r.out] at h23
      have Hb3 := Lib.hid (Hbe.out.trans hb3)
      have H23 := Lib.hid h23
      have hsl3 := lt_of_heap h23
      clear hb3 h13 h23
      have hds : (⟨(catS (Gs.map encG)).data.toList.toArray⟩ : ByteArray) = catS (Gs.map encG) := by
        apply ByteArray.ext; exact Array.toArray_toList
      rw [hds]
      have hj0 : JS (B0 + 1) vb ⟨pg, pf, pp, k⟩ false (.slice none 0 0) (.slice none 0 0) [] (.slice none 0 0) (.slice none 0 0) [] [] w3 [B0 + 1] :=
        ⟨[B0 + 1], [], ⟨rfl, H23.out⟩, ⟨[], [], ⟨own_nil _ _ _, rfl⟩, ⟨[], [], ⟨own_nil _ _ _, rfl⟩, ⟨by simp, rfl⟩, by simp, rfl⟩, by simp, rfl⟩, by simp, rfl⟩
      have hk3 : Keep [] w' w3 := Hk2.out.trans (keep_ge Hb3.out) (fun x hx => .inr (by have := (List.mem_range'_1.1 hx).1; have := HB0.out; have := Hk1.out.size; omega))
      have Hj0 : Hid (To (JS (B0 + 1) vb ⟨pg, pf, pp, k⟩ false (.slice none 0 0) (.slice none 0 0) [] (.slice none 0 0) (.slice none 0 0) [] []) [] w' w3) :=
        ⟨[B0 + 1], hj0, hk3, fun x hx => .inr (by simp at hx; have := HB0.out; have := Hk1.out.size; omega)⟩
      clear hj0 hk3 hds Hbl hB3
      have hD : (catS (Gs.map encG)).size ≤ 1000000 := by omega
      go_wp2_with fail
      go_loopw [12] (fun s wr => ∃ j : Nat, j ≤ Gs.length ∧ s = .string (catS ((Gs.drop j).map encG)) ∧ ∃ gv G, G.map (·.2) = (Gs.take j).map (·.2) ∧ To (JS (B0 + 1) vb ⟨pg, pf, pp, k⟩ false gv (.slice none 0 0) G gv (.slice none 0 0) G []) [] w' wr) (fun s _ => match s with | .string d => d.size | _ => 0)
      case atStart => exact ⟨0, by omega, rfl, _, [], rfl, Hj0.out⟩
      case round =>
        obtain ⟨j, hj, rfl, gv, G, hG, ht⟩ := hrel
        have Ht := Lib.hid ht
        have HG := Lib.hid hG
        clear ht hG
        by_cases hlt : j < Gs.length
        · have hsplit : (Gs.drop j).map encG = encG Gs[j] :: (Gs.drop (j + 1)).map encG := by
            rw [← List.getElem_cons_drop (h := hlt), List.map_cons]
          have hsj := cat_drop_le (Gs.map encG) j
          rw [← List.map_drop] at hsj
          rw [hsplit] at hsj ⊢
          have hsm := Hsm.out Gs[j] (List.getElem_mem hlt)
          have Htk : Hid ((Gs.take (j + 1)).map (·.2) = (Gs.take j).map (·.2) ++ [Gs[j].2]) := by show _ = _; rw [take_succ_get Gs j hlt, List.map_append]; rfl
          have hesz : (encG Gs[j]).size = secsN Gs[j].2 * 128 := encS_size _ _
          have hsn : 1 ≤ secsN Gs[j].2 := by unfold secsN; omega
          rw [show catS (encG Gs[j] :: (Gs.drop (j + 1)).map encG) = encG Gs[j] ++ catS ((Gs.drop (j + 1)).map encG) from rfl] at hsj ⊢
          have hpz := hsj
          rw [ByteArray.size_append] at hsj
          have HP := Lib.hid (parses_enc Gs[j].1 Gs[j].2 (catS ((Gs.drop (j + 1)).map encG)) hsm.1 hsm.2 (by show (encG Gs[j] ++ _).size ≤ _; omega))
          have hrest : Hid (∀ a b : Nat, a = secsN Gs[j].2 * 128 → b = (encG Gs[j] ++ catS ((Gs.drop (j + 1)).map encG)).size → (encG Gs[j] ++ catS ((Gs.drop (j + 1)).map encG)).extract a b = catS ((Gs.drop (j + 1)).map encG)) := by
            intro a b ha hb
            rw [ha, hb, ← hesz, ByteArray.size_append]
            have := extract_mid (encG Gs[j]) (catS ((Gs.drop (j + 1)).map encG)) ⟨#[]⟩
            rwa [app_empty] at this
          have HPE : Hid (encG Gs[j] = encS Gs[j].1 Gs[j].2) := rfl
          generalize hrs0 : catS ((Gs.drop (j + 1)).map encG) = rest at *
          have Hrs0 := Lib.hid hrs0
          clear hrs0
          have hsec5 : secsN Gs[j].2 ≤ 100000 := by omega
          generalize hgj : Gs[j] = gj at *
          obtain ⟨gn, gl⟩ := gj
          dsimp only at HP HPE hsm Htk hsec5 hesz hsn hrest
          have Hhs := Lib.hid hsm
          rw [← HPE.out] at HP
          have hsum : (encG (gn, gl) ++ rest).size = secsN gl * 128 + rest.size := by rw [ByteArray.size_append, hesz]
          have Hsum := Lib.hid hsum
          have HsnH := Lib.hid hsn
          have Hltj := Lib.hid hlt
          generalize encG (gn, gl) ++ rest = st at *
          clear hgj hsm hpz hsplit HPE HC HN HVb HB3 Hkb HB3' HV2 HVr Hdata Hsz Hbe H1r H2r Hj0
          obtain ⟨F1, hJ1, hk1, hs1⟩ := Ht.out
          have HJ1 := Lib.hid hJ1
          have Hk1' := Lib.hid hk1
          have Hs1' := Lib.hid hs1
          clear hJ1 hk1 hs1
          go_wp2_with fail
          refine (parse_c wr st gl HP.out).mono ?_
          rintro e w4 ⟨po, pc, rfl, ht4⟩
          dsimp only
          have ht5 := HJ1.out.parsed ht4
          obtain ⟨F2, hJ2, hk2, hs2⟩ := ht5.before Hk1'.out Hs1'.out
          obtain ⟨ga, gc, rfl⟩ := own_form hJ2.grp
          have hcb := cell_of hJ2.box
          have hfb := frozen_of hJ2.box
          have hjl := lt_of_heap hJ2.box
          simp only [jcells] at hcb
          have HJ2 := Lib.hid hJ2
          have Hk2' := Lib.hid hk2
          have Hs2' := Lib.hid hs2
          clear hJ2 hk2 hs2 ht4 ht5
          go_wp2_with fail
          have hB5 := World.alloc_heap_new w4 (.cells #[.slice po gl.length pc, .int .i64 (secsN gl)] 83)
          have hk45 := Keep.alloc [] w4 (.cells #[.slice po gl.length pc, .int .i64 (secsN gl)] 83)
          generalize w4.alloc (.cells #[.slice po gl.length pc, .int .i64 (secsN gl)] 83) = w5 at *
          have Hb5 := Lib.hid hB5
          have hJ5 := (js_stab _ _ _ _ _ _ _ _ _ _ _).keep HJ2.out hk45 (by simp)
          have HJ5 := Lib.hid hJ5
          have Hk45 := Lib.hid hk45
          have h25 := hJ5.box
          have hF2lt : ∀ x ∈ F2, x < w4.heap.size := (js_stab _ _ _ _ _ _ _ _ _ _ _).lt HJ2.out
          have HF2lt := Lib.hid hF2lt
          have x5 : w5.cell? ⟨B0 + 1, 5, none⟩ = some (.slice ga G.length gc) := by rw [cell_of h25]; rfl
          have x0 : w5.cell? ⟨w4.heap.size, 0, none⟩ = some (.slice po gl.length pc) := by rw [cell_of hB5]; rfl
          have x1 : w5.cell? ⟨w4.heap.size, 1, none⟩ = some (.int .i64 (secsN gl)) := by rw [cell_of hB5]; rfl
          have hj5 := lt_of_heap h25
          have hb5 := lt_of_heap hB5
          obtain ⟨i0, hi, hz0, hz1, hz2⟩ := info_parts infoGr
          have Hi := Lib.hid (And.intro hi (And.intro hz0 (And.intro hz1 hz2)))
          have hGl : G.length ≤ 1000000 := by
            have h1 := congrArg List.length HG.out
            simp at h1
            have h2 : Gs.length * 128 ≤ (catS (Gs.map encG)).size := cat_enc_len Gs
            omega
          clear hi hz0 hz1 hz2 hB5 hk45 hJ5 h25 hcb hfb hF2lt hsj hsum hesz hD hj Hs1' Hk1' HJ1
          refine wp_region_held_tail (S := fun w' => w'.cell? ⟨B0 + 1, 5, none⟩ = some (.slice ga G.length gc) ∧ w'.cell? ⟨w4.heap.size, 0, none⟩ = some (.slice po gl.length pc) ∧ w'.cell? ⟨w4.heap.size, 1, none⟩ = some (.int .i64 (secsN gl))) 8 [6, 7] (by kernel_rfl) (by kernel_rfl) (fun _ _ d _ _ h => by cases d <;> exact h) ?_
          simp only [List.take_succ_cons, List.take_zero, List.drop_succ_cons, List.drop_zero]
          have hS0 : w5.drew.cell? ⟨B0 + 1, 5, none⟩ = some (.slice ga G.length gc) ∧ w5.drew.cell? ⟨w4.heap.size, 0, none⟩ = some (.slice po gl.length pc) ∧ w5.drew.cell? ⟨w4.heap.size, 1, none⟩ = some (.int .i64 (secsN gl)) := ⟨x5, x0, x1⟩
          refine' heldL_val (v := _) (by rfl) (by rfl) hS0 (fun w hw => ?hrun0) (fun K hK => ?hnext0)
          case hrun0 => (obtain ⟨s5, s6, s7⟩ := hw; go_simp; try rfl)
          rotate_left 0
          go_simp
          refine hK _ ?_
          clear hK K
          refine' heldL_val (v := _) (by rfl) (by rfl) hS0 (fun w hw => ?hrun1) (fun K hK => ?hnext1)
          case hrun1 => (obtain ⟨s5, s6, s7⟩ := hw; go_simp; try rfl)
          rotate_left 0
          go_simp
          refine hK _ ?_
          clear hK K
          refine' heldL_val (v := _) (by rfl) (by rfl) hS0 (fun w hw => ?hrun2) (fun K hK => ?hnext2)
          case hrun2 => (obtain ⟨s5, s6, s7⟩ := hw; go_simp; try rfl)
          rotate_left 0
          go_simp
          refine hK _ ?_
          clear hK K
          refine' heldL_val (v := _) (by rfl) (by rfl) hS0 (fun w hw => ?hrun3) (fun K hK => ?hnext3)
          case hrun3 => (obtain ⟨s5, s6, s7⟩ := hw; go_simp; try rfl)
          rotate_left 0
          go_simp
          refine hK _ ?_
          clear hK K
          refine' heldL_val (v := _) (by rfl) (by rfl) hS0 (fun w hw => ?hrun4) (fun K hK => ?hnext4)
          case hrun4 => (obtain ⟨s5, s6, s7⟩ := hw; go_simp; try rfl)
          rotate_left 0
          go_simp
          refine hK _ ?_
          clear hK K
          refine' heldL_val (v := _) (by rfl) (by rfl) hS0 (fun w hw => ?hrun5) (fun K hK => ?hnext5)
          case hrun5 => (obtain ⟨s5, s6, s7⟩ := hw; go_simp; try rfl)
          rotate_left 0
          go_simp
          refine hK _ ?_
          clear hK K
          have hS1 : (w5.drew.alloc (.cells #[.slice po gl.length pc, .int .i64 (secsN gl)] 83)).cell? ⟨B0 + 1, 5, none⟩ = some (.slice ga G.length gc) ∧ (w5.drew.alloc (.cells #[.slice po gl.length pc, .int .i64 (secsN gl)] 83)).cell? ⟨w4.heap.size, 0, none⟩ = some (.slice po gl.length pc) ∧ (w5.drew.alloc (.cells #[.slice po gl.length pc, .int .i64 (secsN gl)] 83)).cell? ⟨w4.heap.size, 1, none⟩ = some (.int .i64 (secsN gl)) :=
            ⟨(World.cell?_of_block ((Keep.alloc [] w5.drew _).block _ hj5 (by simp))).trans x5, (World.cell?_of_block ((Keep.alloc [] w5.drew _).block _ hb5 (by simp))).trans x0, (World.cell?_of_block ((Keep.alloc [] w5.drew _).block _ hb5 (by simp))).trans x1⟩
          refine heldL_mut (by rfl) (by rfl) (fun K hK => ?_)
          go_simp
          refine hK _ _ hS1 ?_
          clear hK K
          refine heldL_mut (by rfl) (by rfl) (fun K hK => ?_)
          refine wp_append2 _ _ _ 74 (by rfl) 83 i0 _ 2 32 Try.underlying74 Hi.out.1 Hi.out.2.1 Hi.out.2.2.1 Hi.out.2.2.2 rfl (by decide) _ _ _ (by rfl) (own_keep' HJ5.out.grp ((Keep.drew [] w5).trans0 (Keep.alloc [] _ _)) (by simp)) ⟨w5.heap.size, 0, none⟩ 1 1 [.slice po gl.length pc, .int .i64 (secsN gl)] (by rfl) rfl (two_news w5.drew _ _ _) two_one (by decide) (by unfold maxLen; omega) (by omega) ?_
          intro g cap w9 ho hg hfr
          have hk9 := (((Keep.drew [] w5).trans0 (Keep.alloc [] _ _)).mono (G := (Value.slice ga G.length gc).ownBlock.toList) (by simp)).trans (Keep.grown hg (F := (Value.slice ga G.length gc).ownBlock.toList) (fun k hk => by rw [hk]; simp)) (fun x hx => .inl hx)
          have hb9 := hk9.heap HJ5.out.box (fun hm => HJ5.out.gv_ne (by simpa using hm))
          have hgb5 : ∀ g, (Value.slice ga G.length gc).ownBlock = some g → g ≠ w4.heap.size := fun g hg e => by
            have := (HJ2.out.grp.lt g hg).2
            omega
          have hbx9 := hk9.heap Hb5.out (fun hm => hgb5 _ (by simpa using hm) rfl)
          have y5 : w9.cell? ⟨B0 + 1, 5, none⟩ = some (.slice ga G.length gc) := by rw [cell_of hb9]; rfl
          have y0 : w9.cell? ⟨w4.heap.size, 0, none⟩ = some (.slice po gl.length pc) := by rw [cell_of hbx9]; rfl
          have y1 : w9.cell? ⟨w4.heap.size, 1, none⟩ = some (.int .i64 (secsN gl)) := by rw [cell_of hbx9]; rfl
          refine hK _ _ ⟨y5, y0, y1⟩ ?_
          clear hK K
          refine heldL_nil ?_
          have hf9 := frozen_of hb9
          have hc9 := cell_of hb9
          simp only [jcells] at hc9
          rw [gcells_snoc] at ho
          have ht9 : To (JS (B0 + 1) vb ⟨pg, pf, pp, k⟩ false (.slice ga G.length gc) (.slice none 0 0) G (.slice (some ⟨g, 0, none⟩) (G.length + 1) cap) (.slice po gl.length pc) (G ++ [(.slice po gl.length pc, gl)]) gl) F2 w5 w9 := by
            have h1 := (js_stab _ _ _ _ _ _ _ _ _ _ _).keep HJ5.out ((Keep.drew [] w5).trans0 (Keep.alloc [] _ (.cells #[.slice po gl.length pc, .int .i64 (secsN gl)] 83))) (by simp)
            refine To.from (h1.setGrp fun F' hF' => ?_) (((Keep.drew [] w5).trans0 (Keep.alloc [] _ (.cells #[.slice po gl.length pc, .int .i64 (secsN gl)] 83))).mono (by simp))
            have hl1 : (G ++ [((.slice po gl.length pc : Value), gl)]).length = G.length + 1 := by simp
            rw [hl1]
            exact own_to hF' ho hg hfr
          have Ht9 := Lib.hid ht9
          have hne : B0 + 1 ≠ w4.heap.size := by omega
          clear ho hg hfr hk9 hb9 y5 hbx9 ht9 hS0 hS1 x5 x0 x1 hgb5
          go_wp2_with fail
          go_roundw
          case rel =>
            have hsu := Hsum.out
            have hlj := Hltj.out
            refine ⟨j + 1, hlj, ?_, ?_⟩
            · rw [Hrs0.out, hrest.out _ _ (by omega) rfl]
            · refine ⟨.slice (some ⟨g, 0, none⟩) (G.length + 1) cap, G ++ [(.slice po gl.length pc, gl)], by rw [Htk.out, ← HG.out]; simp, ?_⟩
              have hz := (Ht9.out.trans fun F' h => h.setBox (q := ⟨pg, pf, pp, k⟩) (cr := false) (hv := .slice (some ⟨g, 0, none⟩) (G.length + 1) cap) (qv := .slice none 0 0) 5 _ rfl).trans fun F' h => h.moved
              exact (hz.from (Hk45.out.mono (by simp))).before Hk2'.out Hs2'.out
          case measure =>
            have hsu := Hsum.out
            have hs1 := HsnH.out
            rw [hrest.out _ _ (by omega) rfl]
            show rest.size < st.size
            omega
        · obtain rfl : j = Gs.length := by omega
          have hdr : catS ((Gs.drop Gs.length).map encG) = ⟨#[]⟩ := by rw [List.drop_length]; rfl
          rw [hdr]
          have htl : (Gs.take Gs.length).map (·.2) = Gs.map (·.2) := by rw [List.take_length]
          have Htl := Lib.hid htl
          clear htl hdr Hj0
          go_wp2_with fail
          go_ret2
          exact ⟨B0 + 1, rfl, Ht.out.imp fun w F h => ⟨gv, _, G, by rw [HG.out, Htl.out], h⟩⟩
end Go.Proofs.Ytgmggmpkbfljfaa
