/- postings.List: part, Len.
   Conditions: those of the theorems. -/
import Derived.Test.YtmeojlamadcedaaBiR
import Derived.Test.YtmeojlamadcedaaWMore
namespace Go.Proofs.Ytmeojlamadcedaa
set_option linter.unusedSimpArgs false
open Go.RowKit Go.Sort Go.Proofs.YtmeojlamadcedaaW.PrintWords Go.Proofs.YtmeojlamadcedaaW.PrintLast Go.Proofs.YtmeojlamadcedaaW.PrintMore
attribute [local go_sem] min2_int min_two

theorem wsmall {x : Int} (h0 : -1000000000000 ≤ x) (h1 : x ≤ 1000000000000) : RowKit.wrap64 x = x := by unfold RowKit.wrap64; omega
theorem wsmall' {x y : Int} (h : x = y) (h0 : -1000000000000 ≤ y) (h1 : y ≤ 1000000000000) : RowKit.wrap64 x = y := by rw [h]; exact wsmall h0 h1
theorem delta_read {l : List Int} (h : Po.Valid l) (i : Nat) (hi : i < l.length) :
    Po.deltaF (Po.bits l l.length) (Po.bits l i).length = (Po.gap l i, (Po.bits l (i + 1)).length, 0) := by
  obtain ⟨post, hp⟩ := Po.bits_split l i l.length hi
  have hg := Po.gap_le h i hi
  rw [hp, Po.deltaF_code _ _ _ hg.1 (by have := hg.2.1; omega), Po.bits, List.length_append]
theorem part_snoc (l : List Int) (s m : Nat) (h : s + m < l.length) : (l.drop s).take (m + 1) = (l.drop s).take m ++ [l.getD (s + m) 0] := by
  rw [List.take_add_one, List.getElem?_drop, List.getElem?_eq_getElem h, List.getD_eq_getElem?_getD, List.getElem?_eq_getElem h]; rfl

/-- The positions from entry k of the skip table to the next. -/
def part (l : List Int) (k : Nat) : List Int := (l.drop (16 * k)).take 16

theorem len_calls (a n : Nat) (w : World) (h : w.cell? ⟨a, 0, none⟩ = some (.int .i64 n)) :
    Calls Try.prog 63 #[.pointer (some ⟨a, 0, none⟩)] w fun e w' => e = .returned (.int .i64 n) ∧ w' = w := by
  go_enter Try.func63, Try.ntmps63
  go_wp2
  go_ret
  exact ⟨rfl, rfl⟩

/-- part, the positions up to index i read. -/
structure Pt (w0 : World) (l : List Int) (k ra : Nat) (rv : Value) (by_ : List UInt8) (i : Nat) (wr : World) (ov : Value) : Prop where
  bel : Below w0.heap.size w0 wr
  rd : Rd w0.heap.size wr ra rv by_ (Po.bits l l.length) (Po.bits l i).length
  own : wr.ownsRow w0.heap.size 3 1 ov (i - 16 * k) (nums .i64 ((l.drop (16 * k)).take (i - 16 * k)))
theorem Rd.lower {base base' : Nat} {w : World} {a : Nat} {v : Value} {by_ : List UInt8} {bl : List Bool} {pos : Nat} (h : Rd base w a v by_ bl pos) (hb : base' ≤ base) : Rd base' w a v by_ bl pos :=
  ⟨Nat.le_trans hb h.low, h.blk, own_less h.row hb, h.size, h.small, h.at_, h.bits⟩

set_option maxHeartbeats 4000000 in
set_option maxRecDepth 100000 in
theorem part_calls (base la : Nat) (gv sv : Value) (l : List Int) (k : Nat) (w : World) (hL : IsList base w la gv sv l) (hk : k < Po.cnt l.length) :
    Calls Try.prog 80 #[.pointer (some ⟨la, 0, none⟩), .int .i64 (k : Nat)] w fun e w' => ∃ v, e = .returned v ∧ w'.ownsRow w.heap.size 3 1 v (part l k).length (nums .i64 (part l k)) ∧ Below w.heap.size w w' := by
  obtain ⟨gA, gC, rfl⟩ := own_slice hL.gaps
  obtain ⟨sg, sc, rfl, hsc⟩ : ∃ sg sc, sv = .slice (some ⟨sg, 0, none⟩) (Po.cnt l.length) sc ∧ Po.cnt l.length ≤ sc := by
    rcases hL.skips.2 with ⟨_, h0⟩ | ⟨g, cap, cur, hv, _, _, hc, _⟩
    · omega
    · exact ⟨g, cap, hv, hc⟩
  have hlen := hL.len
  have hV := Lib.hid hL.valid
  have hbl := Po.bits_len_le hL.valid l.length (Nat.le_refl _)
  have hpl := Po.pack_len (Po.bits l l.length)
  have hcn : Po.cnt l.length = (l.length + 15) / 16 := rfl
  have hkn : 16 * k < l.length := by omega
  have HBLK := Lib.hid hL.blk
  have HN : Hid (Calls Try.prog 94 #[.slice gA (Po.pack (Po.bits l l.length)).length gC, .int .i64 ((Po.bits l l.length).length : Nat)] w.drew fun e w' => ∃ a v, e = .returned (.tuple #[.pointer (some ⟨a, 0, none⟩), .int .i64 0]) ∧ Rd w.heap.size w' a v ((Po.pack (Po.bits l l.length)).take (((Po.bits l l.length).length + 7) / 8)) (Po.bits l l.length) 0 ∧ Below w.heap.size w.drew w') := Lib.hid (by
    have hr := own_reads8 hL.gaps
    have hc : (Po.pack (Po.bits l l.length)).length ≤ gC := by
      rcases hL.gaps.2 with ⟨h1, h0⟩ | ⟨g, cap, cur, hv, _, _, hc, _⟩
      · omega
      · simp only [Value.slice.injEq] at hv
        omega
    have h := newR_calls gA gC (Po.bits l l.length).length (Po.pack (Po.bits l l.length)) w.drew hr hc (by omega) (by omega)
    rw [Po.unpack_pack] at h
    exact h)
  have HSK : Hid (w.cell? ⟨sg, 2 * k, none⟩ = some (.int .i64 (l.getD (16 * k) 0)) ∧ w.cell? ⟨sg, 2 * k + 1, none⟩ = some (.int .i64 ((Po.bits l (16 * k)).length : Nat))) := Lib.hid (by
    have h := skv_at l k (Po.cnt l.length) hk
    exact ⟨(hL.skips.cellAt _ (by omega)).trans h.1, (hL.skips.cellAt _ (by omega)).trans h.2⟩)
  obtain ⟨p0, hp0⟩ : ∃ p, l.getD (16 * k) 0 = p := ⟨_, rfl⟩
  have HP0 := Lib.hid hp0
  rw [hp0] at HSK
  clear hp0
  have hsl : sg < w.heap.size := by
    have := hL.skips.lt sg rfl; exact this.2
  have hal : la < w.heap.size := blk_lt hL.blk
  clear hL hpl hcn
  generalize hgn : (Po.pack (Po.bits l l.length)).length = gn at *
  generalize hbn : (Po.bits l l.length).length = bn at *
  have c2 : w.drew.cell? ⟨la, 2, none⟩ = some (.slice gA gn gC) := (blk_cell (w := w.drew) HBLK.out 2).trans rfl
  have c1 : w.drew.cell? ⟨la, 1, none⟩ = some (.int .i64 (bn : Nat)) := (blk_cell (w := w.drew) HBLK.out 1).trans rfl
  have HBN := Lib.hid hbn
  clear hgn hbn
  go_enter Try.func80, Try.ntmps80
  go_wp2
  refine start_ (n := 14) (S := fun w' => w'.cell? ⟨la, 2, none⟩ = some (.slice gA gn gC) ∧ w'.cell? ⟨la, 1, none⟩ = some (.int .i64 (bn : Nat))) (ds := []) #[false, false, false, false, false, false, false, false, false, false, false, false, false, false] (by kernel_rfl) rfl rfl ⟨c2, c1⟩ (fun hHeld => ?_)
  refine pure_ (i := 0) (N := some 12) (v := ?_) (a' := ?_) #[true, false, false, false, false, false, false, false, false, false, false, false, false, false] rfl rfl (by kernel_rfl) (fun _ _ _ h => h) (Or.inl ⟨by rfl, ?_⟩) ?_ ?_
  rotate_left
  · intro w'
    go_simp
    with_reducible rfl
  rotate_left
  · simp only [Act.put, List.setIfInBounds_toArray, List.set_cons_zero, List.set_cons_succ, i64_w, i32_w]
    rfl
  refine pure_ (i := 1) (N := some 13) (v := ?_) (a' := ?_) #[true, true, false, false, false, false, false, false, false, false, false, false, false, false] rfl rfl (by kernel_rfl) (fun _ _ _ h => h) (Or.inl ⟨by rfl, ?_⟩) ?_ ?_
  rotate_left
  · intro w'
    go_simp
    with_reducible rfl
  rotate_left
  · simp only [Act.put, List.setIfInBounds_toArray, List.set_cons_zero, List.set_cons_succ, i64_w, i32_w]
    rfl
  refine pure_ (i := 2) (N := some 14) (v := ?_) (a' := ?_) #[true, true, true, false, false, false, false, false, false, false, false, false, false, false] rfl rfl (by kernel_rfl) (fun _ _ _ h => h) (Or.inl ⟨by rfl, ?_⟩) ?_ ?_
  rotate_left
  · intro w'
    go_simp
    with_reducible rfl
  rotate_left
  · simp only [Act.put, List.setIfInBounds_toArray, List.set_cons_zero, List.set_cons_succ, i64_w, i32_w]
    rfl
  refine take_ (i := 3) (N := some 15) (v := ?_) (a' := ?_) #[true, true, true, true, false, false, false, false, false, false, false, false, false, false] rfl rfl (by kernel_rfl) (fun _ _ _ h => h) (Or.inl ⟨by rfl, ?_⟩) hHeld ?_ ?_
  rotate_left
  · rintro w' ⟨s0, s1⟩
    go_simp
    with_reducible rfl
  rotate_left
  · simp only [Act.put, List.setIfInBounds_toArray, List.set_cons_zero, List.set_cons_succ, i64_w, i32_w]
    rfl
  refine pure_ (i := 4) (N := some 16) (v := ?_) (a' := ?_) #[true, true, true, true, true, false, false, false, false, false, false, false, false, false] rfl rfl (by kernel_rfl) (fun _ _ _ h => h) (Or.inl ⟨by rfl, ?_⟩) ?_ ?_
  rotate_left
  · intro w'
    go_simp
    with_reducible rfl
  rotate_left
  · simp only [Act.put, List.setIfInBounds_toArray, List.set_cons_zero, List.set_cons_succ, i64_w, i32_w]
    rfl
  refine pure_ (i := 5) (N := some 17) (v := ?_) (a' := ?_) #[true, true, true, true, true, true, false, false, false, false, false, false, false, false] rfl rfl (by kernel_rfl) (fun _ _ _ h => h) (Or.inl ⟨by rfl, ?_⟩) ?_ ?_
  rotate_left
  · intro w'
    go_simp
    with_reducible rfl
  rotate_left
  · simp only [Act.put, List.setIfInBounds_toArray, List.set_cons_zero, List.set_cons_succ, i64_w, i32_w]
    rfl
  refine pure_ (i := 6) (N := some 18) (v := ?_) (a' := ?_) #[true, true, true, true, true, true, true, false, false, false, false, false, false, false] rfl rfl (by kernel_rfl) (fun _ _ _ h => h) (Or.inl ⟨by rfl, ?_⟩) ?_ ?_
  rotate_left
  · intro w'
    go_simp
    with_reducible rfl
  rotate_left
  · simp only [Act.put, List.setIfInBounds_toArray, List.set_cons_zero, List.set_cons_succ, i64_w, i32_w]
    rfl
  refine take_ (i := 7) (N := some 19) (v := ?_) (a' := ?_) #[true, true, true, true, true, true, true, true, false, false, false, false, false, false] rfl rfl (by kernel_rfl) (fun _ _ _ h => h) (Or.inl ⟨by rfl, ?_⟩) hHeld ?_ ?_
  rotate_left
  · rintro w' ⟨s0, s1⟩
    go_simp
    with_reducible rfl
  rotate_left
  · simp only [Act.put, List.setIfInBounds_toArray, List.set_cons_zero, List.set_cons_succ, i64_w, i32_w]
    rfl
  refine one_ (i := 8) (N := some 20) #[true, true, true, true, true, true, true, true, true, false, false, false, false, false] rfl rfl (by kernel_rfl) (by decide) (fun K hK => ?_)
  refine goes_ Try.func94 (by kernel_rfl) rfl #[.slice gA gn gC, .int .i64 (bn : Nat)] (by rfl) rfl rfl (by (try simp only [List.map_toArray, List.map_cons, List.map_nil]); first | done | rfl) ?_
  with_reducible refine (HN.out).mono ?_
  rintro e w1 ⟨ra, rv, rfl, hrd, hb1⟩
  have HRD := Lib.hid hrd
  have HB1 := Lib.hid hb1
  clear hrd hb1
  refine ⟨_, rfl, ?_⟩
  refine hK.out _ _ ⟨(blk_cell (blk_below (w := w.drew) HBLK.out HB1.out) 2).trans rfl, (blk_cell (blk_below (w := w.drew) HBLK.out HB1.out) 1).trans rfl⟩ (fun hHeld => ?_)
  clear hK K
  refine norm_ (a' := ?_) ?_ ?_
  rotate_left
  · show Act.put _ (some 20) _ = _
    simp only [Act.put, List.setIfInBounds_toArray, List.set_cons_zero, List.set_cons_succ, i64_w, i32_w]
    rfl
  refine pure_ (i := 9) (N := some 11) (v := ?_) (a' := ?_) #[true, true, true, true, true, true, true, true, true, true, false, false, false, false] rfl rfl (by kernel_rfl) (fun _ _ _ h => h) (Or.inl ⟨by rfl, ?_⟩) ?_ ?_
  rotate_left
  · intro w'
    go_simp
    with_reducible rfl
  rotate_left
  · simp only [Act.put, List.setIfInBounds_toArray, List.set_cons_zero, List.set_cons_succ, i64_w, i32_w]
    rfl
  refine pure_ (i := 10) (N := some 21) (v := ?_) (a' := ?_) #[true, true, true, true, true, true, true, true, true, true, true, false, false, false] rfl rfl (by kernel_rfl) (fun _ _ _ h => h) (Or.inl ⟨by rfl, ?_⟩) ?_ ?_
  rotate_left
  · intro w'
    go_simp
    with_reducible rfl
  rotate_left
  · simp only [Act.put, List.setIfInBounds_toArray, List.set_cons_zero, List.set_cons_succ, i64_w, i32_w]
    rfl
  refine pure_ (i := 11) (N := some 22) (v := ?_) (a' := ?_) #[true, true, true, true, true, true, true, true, true, true, true, true, false, false] rfl rfl (by kernel_rfl) (fun _ _ _ h => h) (Or.inl ⟨by rfl, ?_⟩) ?_ ?_
  rotate_left
  · intro w'
    go_simp
    with_reducible rfl
  rotate_left
  · simp only [Act.put, List.setIfInBounds_toArray, List.set_cons_zero, List.set_cons_succ, i64_w, i32_w]
    rfl
  refine pure_ (i := 12) (N := some 5) (v := ?_) (a' := ?_) #[true, true, true, true, true, true, true, true, true, true, true, true, true, false] rfl rfl (by kernel_rfl) (fun _ _ _ h => h) (Or.inl ⟨by rfl, ?_⟩) ?_ ?_
  rotate_left
  · intro w'
    go_simp
    with_reducible rfl
  rotate_left
  · simp only [Act.put, List.setIfInBounds_toArray, List.set_cons_zero, List.set_cons_succ, i64_w, i32_w]
    rfl
  refine pure_ (i := 13) (N := some 6) (v := ?_) (a' := ?_) #[true, true, true, true, true, true, true, true, true, true, true, true, true, true] rfl rfl (by kernel_rfl) (fun _ _ _ h => h) (Or.inl ⟨by rfl, ?_⟩) ?_ ?_
  rotate_left
  · intro w'
    go_simp
    with_reducible rfl
  rotate_left
  · simp only [Act.put, List.setIfInBounds_toArray, List.set_cons_zero, List.set_cons_succ, i64_w, i32_w]
    rfl
  refine done_ (by kernel_rfl) ?_
  have hbw1 : Below w.heap.size w w1 := (Below.refl w.heap.size w).drew.trans HB1.out
  have HBW1 := Lib.hid hbw1
  have hra := HRD.out.low
  have HRA := Lib.hid hra
  have hmono := Po.bits_len_mono l (16 * k) l.length (by omega)
  have hbn16 : (Po.bits l (16 * k)).length < 1000000 := by have := HBN.out; omega
  have H98 := Lib.hid (seekR_calls w.heap.size ra 0 rv _ (Po.bits l l.length) (Po.bits l (16 * k)).length w1 HRD.out hmono)
  have HC : Hid (∀ W, Below w.heap.size w W → W.cell? ⟨la, 3, none⟩ = some (.slice (some ⟨sg, 0, none⟩) (Po.cnt l.length) sc) ∧ W.cell? ⟨la, 0, none⟩ = some (.int .i64 (l.length : Nat)) ∧ W.cell? ⟨sg, k * 2, none⟩ = some (.int .i64 p0) ∧ W.cell? ⟨sg, k * 2 + 1, none⟩ = some (.int .i64 ((Po.bits l (16 * k)).length : Nat))) := Lib.hid (fun W hW => by
    refine ⟨(hW.cell (p := ⟨la, 3, none⟩) hal).trans ((blk_cell HBLK.out 3).trans rfl), (hW.cell (p := ⟨la, 0, none⟩) hal).trans ((blk_cell HBLK.out 0).trans rfl), ?_, ?_⟩
    · rw [Nat.mul_comm]; exact (hW.cell (p := ⟨sg, 2 * k, none⟩) hsl).trans HSK.out.1
    · rw [Nat.mul_comm]; exact (hW.cell (p := ⟨sg, 2 * k + 1, none⟩) hsl).trans HSK.out.2)
  obtain ⟨e3, e0, s0, s1⟩ := HC.out w1 hbw1
  have hk0 : (0 : Int) ≤ (k : Int) := by omega
  have hkc : (k : Int) < (Po.cnt l.length : Nat) := by omega
  have HD : Hid (∀ W i, i < l.length → Rd w.heap.size W ra rv ((Po.pack (Po.bits l l.length)).take ((bn + 7) / 8)) (Po.bits l l.length) (Po.bits l i).length → Calls Try.prog 95 #[.pointer (some ⟨ra, 0, none⟩)] W fun e w' => e = .returned (.tuple #[.int .u64 (Po.gap l i : Nat), .int .i64 0]) ∧ Rd w.heap.size w' ra rv ((Po.pack (Po.bits l l.length)).take ((bn + 7) / 8)) (Po.bits l l.length) (Po.bits l (i + 1)).length ∧ Fr (fun k => k = ra) W w') := Lib.hid (fun W i hi hr => by
    refine (deltaR_calls w.heap.size ra _ rv _ _ W hr).mono fun e w' hq => ?_
    obtain ⟨h1, h2, h3⟩ := hq
    rw [delta_read hV.out i hi] at h1 h2
    exact ⟨h1, h2, h3⟩)
  have HFB : Hid (∀ W W2, Below w.heap.size w W → Fr (fun k => k = ra) W W2 → Below w.heap.size w W2) := Lib.hid (fun W W2 h1 h2 => Fr.after h1 h2 h1.size (fun i hi he => by have := HRA.out; omega))
  clear hbw1 hra hmono c1 c2
  generalize hby : (Po.pack (Po.bits l l.length)).take ((bn + 7) / 8) = by_ at *
  clear hby
  go_wp2_with (first
    | (go_at_call 98; (with_reducible refine H98.out.mono ?_); rintro e w2 ⟨rfl, hrd2, hf2⟩; have HRD2 := Lib.hid hrd2; have HB2 := Lib.hid (HFB.out _ _ HBW1.out hf2); clear hrd2 hf2)
    | (go_at_call 95; (with_reducible refine (HD.out _ _ hkn HRD2.out).mono ?_); rintro e w3 ⟨rfl, hrd3, hf3⟩; have HRD3 := Lib.hid hrd3; have HB3 := Lib.hid (HFB.out _ _ HB2.out hf3); clear hrd3 hf3; obtain ⟨e3, e0, s0, s1⟩ := HC.out _ HB3.out))
  have hst : Hid (Pt w l k ra rv by_ (16 * k + 1) (w3.alloc (.cells #[.int .i64 p0] 3)) (.slice (some ⟨w3.heap.size, 0, none⟩) 1 1)) := Lib.hid (by
    have h1 : 16 * k + 1 - 16 * k = 1 := by omega
    refine ⟨HB3.out.alloc HB3.out.size _, HRD3.out.later ((Below.refl _ _).alloc (Nat.le_refl _) _), ?_⟩
    rw [h1]
    have h2 : (l.drop (16 * k)).take 1 = [p0] := by
      have h3 := part_snoc l (16 * k) 0 hkn
      rw [List.take_zero, List.nil_append] at h3
      rw [h3]; exact congrArg (fun q => [q]) HP0.out
    rw [h2]
    exact World.ownsRow_lit w3 #[.int .i64 p0] 1 HB3.out.size (by simp [maxLen]) rfl)
  go_loopg [7, 8] 16 (fun kx s7 s8 wr => ∃ (i : Nat) (W : World), W = wr ∧ s8 = .int .i64 i ∧ 16 * k + 1 ≤ i ∧ i ≤ 16 * k + 16 ∧ i ≤ l.length ∧ 16 * k + 16 - i ≤ kx ∧ Pt w l k ra rv by_ i wr s7)
  case atStart => exact ⟨16 * k + 1, _, rfl, congrArg (Value.int .i64) (by omega), by omega, by omega, by omega, by omega, hst.out⟩
  case round =>
    obtain ⟨i, W, rfl, rfl, hi1, hi2, hi3, hkx, hpt⟩ := hrel
    have HPT := Lib.hid hpt
    clear hst
    obtain ⟨j, hj⟩ : ∃ j, i = 16 * k + j + 1 := ⟨i - 16 * k - 1, by omega⟩
    obtain ⟨m, hm⟩ : ∃ m, m = j + 1 := ⟨_, rfl⟩
    have hij : i - 16 * k = m := by omega
    have hown := hpt.own
    rw [hij] at hown
    obtain ⟨og, oc, rfl, hoc⟩ := own_some hown (by omega)
    have HOWN := Lib.hid hown
    clear hpt hown
    obtain ⟨e3', e0', s0', s1'⟩ := HC.out _ HPT.out.bel
    have HWK1 : Hid (RowKit.wrap64 ((k : Int) + 1) = (k : Int) + 1) := Lib.hid (wsmall' (by omega) (by omega) (by omega))
    have HWK2 : Hid (RowKit.wrap64 (((k : Int) + 1) * 16) = ((k : Int) + 1) * 16) := Lib.hid (wsmall' (by omega) (by omega) (by omega))
    obtain ⟨mn, hmn⟩ : ∃ d, (if ((k : Int) + 1) * 16 < (l.length : Int) then ((k : Int) + 1) * 16 else (l.length : Int)) = d := ⟨_, rfl⟩
    by_cases hgo : i < l.length ∧ i < 16 * k + 16
    · have hdm : decide ((i : Int) < mn) = true := by
        rw [← hmn, decide_eq_true_iff]; split <;> omega
      obtain ⟨gp, hgp⟩ : ∃ g, Po.gap l i = g := ⟨_, rfl⟩
      obtain ⟨pl, hpl⟩ : ∃ p, l.getD (16 * k + j) 0 = p := ⟨_, rfl⟩
      obtain ⟨p, hp⟩ : ∃ p, l.getD i 0 = p := ⟨_, rfl⟩
      have hgl := Po.gap_le hV.out i hgo.1
      have hrange := hV.out i hgo.1
      have hbef : Po.bef l i = pl := by rw [hj]; exact hpl
      rw [hgp, hbef, hp] at hgl
      have hr1 := hrange.1
      have hr2 := hrange.2.1
      rw [hp] at hr1 hr2
      have H_hgw : Hid (RowKit.wrap64 (gp : Int) = (gp : Int)) := Lib.hid (wsmall' (by omega) (by omega) (by omega))
      have H_hsum : Hid (RowKit.wrap64 p = p) := Lib.hid (wsmall' rfl (by omega) (by omega))
      have hsum2 : pl + (gp : Int) = p := hgl.2.2
      have H_hwj : Hid (RowKit.wrap64 ((m : Int) - 1) = (j : Int)) := Lib.hid (wsmall' (by omega) (by omega) (by omega))
      have H_hwj2 : Hid (RowKit.wrap64 (j : Int) = (j : Int)) := Lib.hid (wsmall' (by omega) (by omega) (by omega))
      have hj0 : (0 : Int) ≤ (j : Int) := by omega
      have H_hwi : Hid (RowKit.wrap64 ((i : Int) + 1) = (i : Int) + 1) := Lib.hid (wsmall' (by omega) (by omega) (by omega))
      have H95 : Hid (Calls Try.prog 95 #[.pointer (some ⟨ra, 0, none⟩)] W fun e w' => e = .returned (.tuple #[.int .u64 (gp : Nat), .int .i64 0]) ∧ Rd w.heap.size w' ra rv by_ (Po.bits l l.length) (Po.bits l (i + 1)).length ∧ Fr (fun k => k = ra) W w') := Lib.hid (by rw [← hgp]; exact HD.out _ _ hgo.1 HPT.out.rd)
      have hne : Hid (∀ b, (Value.slice (some ⟨og, 0, none⟩) m oc).ownBlock = some b → ¬ b = ra) := Lib.hid (fun b hb e => own_apart HOWN.out HPT.out.rd.blk (by decide) (e ▸ hb))
      have HNX : Hid (∀ (W2 : World) (ov : Value), W2.ownsRow w.heap.size 3 1 ov (m + 1) (nums .i64 ((l.drop (16 * k)).take m) ++ [.int .i64 p]) → W2.ownsRow w.heap.size 3 1 ov (i + 1 - 16 * k) (nums .i64 ((l.drop (16 * k)).take (i + 1 - 16 * k)))) := Lib.hid (fun W2 ov h => by
        rw [show i + 1 - 16 * k = m + 1 by omega, part_snoc l (16 * k) m (by omega), nums_append, show 16 * k + m = i by omega, hp]
        exact h)
      have HCELL : Hid ((nums .i64 ((l.drop (16 * k)).take m))[j]? = some (.int .i64 pl)) := Lib.hid (by
        unfold nums
        rw [List.getElem?_map, List.getElem?_take_of_lt (by omega), List.getElem?_drop, List.getElem?_eq_getElem (by omega), ← hpl, List.getD_eq_getElem?_getD, List.getElem?_eq_getElem (by omega)]; rfl)
      have hnl : Hid ((nums .i64 ((l.drop (16 * k)).take m)).length = m) := Lib.hid (by
        unfold nums; rw [List.length_map, List.length_take, List.length_drop]; omega)
      have HJ := Lib.hid hj
      have hjm : (j : Int) < (m : Int) := by omega
      have hmj : (m : Int) - 1 = (j : Int) := by omega
      have HJM := Lib.hid hm
      have HJ16 : Hid (m < 17) := Lib.hid (by omega)
      clear hgp hpl hp hgl hrange hbef hr1 hr2 hij hj hm
      generalize nums .i64 ((l.drop (16 * k)).take m) = ns at *
      have HLT : Hid (j < m * 1) := Lib.hid (by omega)
      have HMX : Hid ((ns.length + 1) * 8 ≤ 140737488355328) := Lib.hid (by have := HJ16.out; rw [hnl.out]; omega)
      clear hlen hkn hsc hk HSK HBLK HN HRD H98 HD HRD2 HB2 HRD3 HB3 HB1 HBW1 hbn16 hbl
      have hwk1 := HWK1.out
      have hwk2 := HWK2.out
      have hgw := H_hgw.out
      have hsum := H_hsum.out
      have hwj := H_hwj.out
      have hwj2 := H_hwj2.out
      have hwi := H_hwi.out
      go_wp2_with (first
        | (go_at_call 95; (with_reducible refine H95.out.mono ?_); rintro e w4 ⟨rfl, hrd4, hf4⟩
            ; have ho4 := hf4.own HOWN.out hne.out
            ; have co := (ho4.cellAt j HLT.out).trans HCELL.out
            ; have ho4' : w4.ownsRow w.heap.size 3 1 (.slice (some ⟨og, 0, none⟩) m oc) ns.length ns := (by rw [hnl.out]; exact ho4)
            ; have HO4 := Lib.hid ho4'; have HRD4 := Lib.hid hrd4; have HB4 := Lib.hid (HFB.out _ _ HPT.out.bel hf4); clear hrd4 hf4 ho4 ho4'; obtain ⟨e3, e0, s0, s1⟩ := HC.out _ HB4.out)
        | ((with_reducible refine gate_dst (N := 75) rfl ?_); refine print_append (w0 := w) (W := w4) w.heap.size rfl (.tmp 64) (.tmp 74) 38 3 (.int .i64 0) 8 rfl (show Try.prog.underlying 38 = some (.slice 3) by kernel_rfl) (by kernel_rfl) rfl (by decide) (.slice (some ⟨og, 0, none⟩) m oc) ns (.int .i64 p) rfl rfl rfl HO4.out HB4.out HB4.out.size HMX.out ?_
            ; intro v5 w5 hown5 hb5 hgr5 _
            ; have HO5 := Lib.hid hown5; have HB5 := Lib.hid hb5; have HG5 := Lib.hid hgr5; clear hown5 hb5 hgr5))
      go_roundg (16 * k + 16 - (i + 1))
      case measure => clear hwk1 hwk2 hgw hsum hwj hwj2 hwi; omega
      case rel =>
        clear hwk1 hwk2 hgw hsum hwj hwj2 hwi
        have h5 := HO5.out
        rw [List.length_append, hnl.out] at h5
        refine ⟨i + 1, _, rfl, congrArg (Value.int .i64) (H_hwi.out.trans (Int.natCast_succ i).symm), by omega, by omega, by omega, by omega, ⟨HB5.out, ?_, HNX.out _ _ h5⟩⟩
        have hne4 := own_apart HO4.out HRD4.out.blk (by decide)
        have hrow4 := own_own HRD4.out.row HO4.out (by decide)
        have hf : Fr (fun b => (Value.slice (some ⟨og, 0, none⟩) m oc).ownBlock = some b) w4 w5 := (Fr.refl _ w4).grown HG5.out (fun b _ hb => hb)
        exact ⟨HRD4.out.low, hf.blk HRD4.out.blk hne4, hf.own HRD4.out.row hrow4, HRD4.out.size, HRD4.out.small, HRD4.out.at_, HRD4.out.bits⟩
    · have hdm : decide ((i : Int) < mn) = false := by
        rw [← hmn, decide_eq_false_iff_not]; split <;> omega
      have HE : Hid (part l k = (l.drop (16 * k)).take m) := Lib.hid (by
        clear hdm hmn
        unfold part
        rcases Nat.lt_or_ge i l.length with h1 | h1
        · rw [show m = 16 by omega]
        · rw [List.take_of_length_le (by rw [List.length_drop]; omega), List.take_of_length_le (by rw [List.length_drop]; omega)])
      have HLN : Hid (((l.drop (16 * k)).take m).length = m) := Lib.hid (by clear hdm hmn; rw [List.length_take, List.length_drop]; omega)
      clear hij hj hm hgo hi1 hi2 hi3 hkx hkn hbl hbn16 hlen hsc HSK HN H98 HD HFB HC HBN HBLK hV
      have hwk1 := HWK1.out
      have hwk2 := HWK2.out
      go_wp2
      go_ret
      exact ⟨_, rfl, by rw [HE.out, HLN.out]; exact HOWN.out, HPT.out.bel⟩
end Go.Proofs.Ytmeojlamadcedaa
