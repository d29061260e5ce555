/- postings.List: Encode.
   Conditions: those of the theorem. -/
import Derived.Test.YtmeojlamadcedaaPoK
import Derived.Test.YtmeojlamadcedaaPoU
namespace Go.Proofs.Ytmeojlamadcedaa
set_option linter.unusedSimpArgs false
open Go.RowKit Go.Sort Go.Proofs.YtmeojlamadcedaaW.PrintWords Go.Proofs.YtmeojlamadcedaaW.PrintLast

theorem ownB {w : World} {base n : Nat} {v : Value} {l : List UInt8} (h : w.ownsRow base 5 1 v n (vals l)) : n = l.length := by have := h.1; rw [vals_len] at this; omega
theorem entry_small {l : List Int} (h : Po.Valid l) (k : Nat) (hk : 16 * (k + 1) < l.length) :
    ∃ d : Nat, l.getD (16 * (k + 1)) 0 - l.getD (16 * k) 0 = (d : Int) ∧ (l.getD (16 * (k + 1)) 0 - l.getD (16 * k) 0).toNat = d ∧ d < 4294967296 := by
  have h1 := Po.valid_lt h (16 * k) (16 * (k + 1)) (by omega) hk
  have h2 := h (16 * (k + 1)) hk
  have h3 := h (16 * k) (by omega)
  exact ⟨(l.getD (16 * (k + 1)) 0 - l.getD (16 * k) 0).toNat, by omega, rfl, by have := h2.2.1; have := h3.1; omega⟩

/-- What the encoding begins with, ahead of the skip table. -/
def hd (l : List Int) : List UInt8 := Po.uvar l.length ++ Po.uvar (Po.bits l l.length).length ++ Po.pack (Po.bits l l.length)

set_option maxHeartbeats 4000000 in
set_option maxRecDepth 100000 in
theorem encode_calls (base la : Nat) (gv sv : Value) (l : List Int) (w : World) (hL : IsList base w la gv sv l) :
    Calls Try.prog 37 #[.pointer (some ⟨la, 0, none⟩)] w fun e w' => ∃ v, e = .returned v ∧ w'.ownsRow w.heap.size 5 1 v (Po.Enc l).length (vals (Po.Enc l)) ∧ Below w.heap.size w w' := by
  obtain ⟨gA, gC, rfl⟩ := own_slice hL.gaps
  obtain ⟨sA, sc, rfl⟩ := own_slice hL.skips
  have hbl := Po.bits_len_le hL.valid l.length (Nat.le_refl _)
  have hlen := hL.len
  have hpl := Po.pack_len (Po.bits l l.length)
  have hu1 := Po.uvar_len l.length
  have hu2 := Po.uvar_len (Po.bits l l.length).length
  have HL := Lib.hid hL
  obtain ⟨bn, hbn⟩ : ∃ bn, (Po.bits l l.length).length = bn := ⟨_, rfl⟩
  obtain ⟨pk, hpk⟩ : ∃ pk, Po.pack (Po.bits l l.length) = pk := ⟨_, rfl⟩
  obtain ⟨n, hn⟩ : ∃ n, l.length = n := ⟨_, rfl⟩
  have hblk := hL.blk
  rw [hpk, hbn, hn] at hblk
  have HBLK := Lib.hid hblk
  have HC : Hid (∀ W, Below w.heap.size w W → W.heap[la]? = some (.cells #[.int .i64 (n : Nat), .int .i64 (bn : Nat), .slice gA pk.length gC, .slice sA (Po.cnt n) sc] 92 (0, 0))) := Lib.hid (fun W hW => blk_below hblk hW)
  have HG : Hid (∀ W, Below w.heap.size w W → ReadsInt W .u8 gA pk.length (Given.ints pk)) := Lib.hid (fun W hW => by
    have h := own_reads8 (own_later hL.gaps hW)
    rw [hpk] at h; exact h)
  have hhd : hd l = Po.uvar n ++ Po.uvar bn ++ pk := by unfold hd; rw [hpk, hbn, hn]
  have HHD := Lib.hid hhd
  rw [hpk] at hpl
  rw [hbn] at hpl
  rw [hbn, hn] at hbl
  rw [hn] at hlen hu1
  rw [hbn] at hu2
  have c0 : w.cell? ⟨la, 0, none⟩ = some (.int .i64 (n : Nat)) := (blk_cell hblk 0).trans rfl
  have hwn : IntKind.u64.wrap (n : Int) = (n : Int) := by simp [IntKind.wrap, IntKind.bits, IntKind.signed]; omega
  have hwb : IntKind.u64.wrap (bn : Int) = (bn : Int) := by simp [IntKind.wrap, IntKind.bits, IntKind.signed]; omega
  have HP1 : Hid (Calls Try.prog 71 #[.slice none 0 0, .int .u64 (n : Nat)] w fun e w' => ∃ v, e = .returned v ∧ w'.ownsRow w.heap.size 5 1 v (Po.uvar n).length (vals (Po.uvar n)) ∧ Below w.heap.size w w') := Lib.hid (putU_calls none 0 [] n w (ReadsInt.nil w .u8) (by omega) (by simp))
  have HLN : Hid (n ≤ 4096 ∧ bn ≤ 42 * n ∧ pk.length = (bn + 7) / 8 ∧ (Po.uvar n).length ≤ 10 ∧ (Po.uvar bn).length ≤ 10) := Lib.hid ⟨hlen, hbl, hpl, hu1.2, hu2.2⟩
  obtain ⟨u1, hu1e⟩ : ∃ u, Po.uvar n = u := ⟨_, rfl⟩
  obtain ⟨u2, hu2e⟩ : ∃ u, u1 ++ Po.uvar bn = u := ⟨_, rfl⟩
  rw [hu1e] at HP1 HHD HLN
  rw [hu2e] at HHD
  have HU2 := Lib.hid hu2e
  have HUL : Hid (u2.length ≤ 20) := Lib.hid (by rw [← hu2e, List.length_append]; have := HLN.out; omega)
  have HNE := Lib.hid hn
  have HBE := Lib.hid hbn
  clear hL hblk hhd hbl hpl hu1 hu2 hn hbn hpk hlen hu1e hu2e
  go_enter Try.func37, Try.ntmps37
  go_wp2_with (first
    | (go_at_call_of 71 (Value.slice none 0 0); (with_reducible refine HP1.out.mono ?_); rintro e w1 ⟨v1, rfl, ho1, hb1⟩
       ; obtain ⟨A1, C1, rfl⟩ := own_slice ho1
       ; have HO1 := Lib.hid ho1; have HB1 := Lib.hid hb1
       ; have d1 : w1.cell? ⟨la, 1, none⟩ = some (.int .i64 (bn : Nat)) := (blk_cell (HC.out _ hb1) 1).trans rfl
       ; have HP2 : Hid (Calls Try.prog 71 #[.slice A1 u1.length C1, .int .u64 (bn : Nat)] w1 fun e w' => ∃ v, e = .returned v ∧ w'.ownsRow w1.heap.size 5 1 v u2.length (vals u2) ∧ Below w1.heap.size w1 w') := Lib.hid (by rw [← HU2.out]; exact putU_calls A1 C1 u1 bn w1 (own_reads8 ho1) (by have := HLN.out; omega) (by have := HLN.out; omega))
       ; clear ho1 hb1)
    | (go_at_call 71; (with_reducible refine HP2.out.mono ?_); rintro e w2 ⟨v2, rfl, ho2, hb2⟩
       ; obtain ⟨A2, C2, rfl⟩ := own_slice ho2
       ; have hbw2 := HB1.out.trans (hb2.mono HB1.out.size)
       ; have HB2 := Lib.hid hbw2
       ; have HO2 := Lib.hid (own_vals (own_less ho2 HB1.out.size))
       ; have d2 : w2.cell? ⟨la, 2, none⟩ = some (.slice gA pk.length gC) := (blk_cell (HC.out _ hbw2) 2).trans rfl
       ; have HM2 : Hid (((Given.ints u2).length + pk.length) * 1 ≤ 140737488355328) := Lib.hid (by rw [Given.ints_len]; have := HLN.out; have := HUL.out; omega)
       ; clear ho2 hb2 hbw2)
    | ((with_reducible refine gate_dst (N := 23) rfl ?_); refine print_append_row (w0 := w) (W := w2) w.heap.size rfl (.tmp 18) (.tmp 22) 22 5 .u8 1 rfl (show Try.prog.underlying 22 = some (.slice 5) by kernel_rfl) (by kernel_rfl) (by decide) (.slice A2 u2.length C2) (Given.ints u2) (Given.ints pk) gA pk.length gC rfl rfl HO2.out (HG.out _ HB2.out) HB2.out HB2.out.size HM2.out ?_
       ; intro v3 w3 hown3 hb3 _ _; have HO3 := Lib.hid hown3; have HB3 := Lib.hid hb3; clear hown3 hb3))
  obtain ⟨h0, hh0⟩ : ∃ h, u2 ++ pk = h := ⟨_, rfl⟩
  have HH0 : Hid (hd l = h0 ∧ h0.length ≤ 40000) := Lib.hid ⟨by rw [HHD.out]; exact hh0, by rw [← hh0, List.length_append]; have := HLN.out; have := HUL.out; omega⟩
  have HST : Hid (w3.ownsRow w.heap.size 5 1 v3 h0.length (vals h0)) := Lib.hid (by
    have h := HO3.out
    rw [show Given.ints u2 ++ Given.ints pk = Given.ints (u2 ++ pk) from List.map_append.symm, hh0] at h
    exact vals_own rfl h)
  have HCN : Hid (Po.cnt n = (n + 15) / 16) := Lib.hid rfl
  obtain ⟨cn, hcn⟩ : ∃ cn, Po.cnt n = cn := ⟨_, rfl⟩
  rw [hcn] at HCN HC
  have HCNE := Lib.hid hcn
  clear hh0 HO3 HO2 HG HP1 HP2 hcn
  go_loopg [3, 4] 300 (fun kx s3 s4 wr => ∃ (k1 : Nat) (bs : List UInt8) (W : World), W = wr ∧ s4 = .int .i64 ((k1 : Int) + 1) ∧ k1 ≤ 300 ∧ 300 - k1 ≤ kx ∧ (k1 + 1 ≤ cn ∨ k1 = 0) ∧ bs = h0 ++ Po.entries l k1 ∧ wr.ownsRow w.heap.size 5 1 s3 bs.length (vals bs) ∧ Below w.heap.size w wr)
  case atStart => exact ⟨0, h0, _, rfl, rfl, by omega, by omega, .inr rfl, by rw [Po.entries, List.append_nil], HST.out, HB3.out⟩
  case round =>
    obtain ⟨k1, bs, W, rfl, rfl, hk3, hkx, hkc, hbs, hown, hbel⟩ := hrel
    obtain ⟨oA, oC, rfl⟩ := own_slice hown
    have HOWN := Lib.hid hown
    have HBD := Lib.hid hbel
    have HBS := Lib.hid hbs
    have HENT : Hid (bs.length < 100000) := Lib.hid (by
      have h1 := Po.entries_len l k1
      have h2 := HH0.out.2
      have h3 := congrArg List.length hbs
      rw [List.length_append] at h3; omega)
    have d3 : W.cell? ⟨la, 3, none⟩ = some (.slice sA cn sc) := (blk_cell (HC.out _ hbel) 3).trans rfl
    clear hown hbel hbs
    by_cases hlt : k1 + 1 < cn
    · obtain ⟨k, hk⟩ : ∃ k, k1 + 1 = k := ⟨_, rfl⟩
      have hkI : (k1 : Int) + 1 = (k : Int) := by omega
      rw [hkI]
      have hzk : decide ((k : Int) < (cn : Int)) = true := by simp; omega
      have hzk2 : k < cn := by omega
      have hk16 : 16 * (k1 + 1) < l.length := by have h1 := HCN.out; have h2 := HNE.out; omega
      obtain ⟨d1, hd1, hd1n, hd1s⟩ := entry_small HL.out.valid k1 hk16
      have hmono := Po.bits_len_mono l (16 * k1) (16 * (k1 + 1)) (by omega)
      have hmono2 := Po.bits_len_mono l (16 * (k1 + 1)) l.length (by omega)
      have hbs2 : (Po.bits l l.length).length ≤ 1000000 := by have h1 := HBE.out; have h2 := HLN.out; omega
      obtain ⟨qa, hqa⟩ : ∃ q, (Po.bits l (16 * (k1 + 1))).length = q := ⟨_, rfl⟩
      obtain ⟨qb, hqb⟩ : ∃ q, (Po.bits l (16 * k1)).length = q := ⟨_, rfl⟩
      obtain ⟨d2, hd2⟩ : ∃ d, qa - qb = d := ⟨_, rfl⟩
      have HEN : Hid (Po.entry l k1 = Po.uvar d1 ++ Po.uvar d2) := Lib.hid (by unfold Po.entry; rw [hd1n, hqa, hqb, hd2])
      rw [hqa, hqb] at hmono
      rw [hqa] at hmono2
      have hq2 : Hid (RowKit.wrap64 ((qa : Int) - (qb : Int)) = (d2 : Int)) := Lib.hid (wsmall' (by omega) (by omega) (by omega))
      obtain ⟨pa, hpa⟩ : ∃ p, l.getD (16 * (k1 + 1)) 0 = p := ⟨_, rfl⟩
      obtain ⟨pb, hpb⟩ : ∃ p, l.getD (16 * k1) 0 = p := ⟨_, rfl⟩
      rw [hpa, hpb] at hd1
      have hq1 : Hid (RowKit.wrap64 (pa - pb) = (d1 : Int)) := Lib.hid (wsmall' hd1 (by omega) (by omega))
      have hq3 : Hid (RowKit.wrap64 ((k : Int) - 1) = (k1 : Int)) := Lib.hid (wsmall' (by omega) (by omega) (by omega))
      have hq4 : Hid (IntKind.u64.wrap (d1 : Int) = (d1 : Int)) := Lib.hid (by simp [IntKind.wrap, IntKind.bits, IntKind.signed]; omega)
      have hq5 : Hid (IntKind.u64.wrap (d2 : Int) = (d2 : Int)) := Lib.hid (by simp [IntKind.wrap, IntKind.bits, IntKind.signed]; omega)
      have hd1b : d1 < 18446744073709551616 := by omega
      have hd2b : d2 < 18446744073709551616 := by omega
      have hk0 : (0 : Int) ≤ (k : Int) := by omega
      have hk10 : (0 : Int) ≤ (k1 : Int) := by omega
      have hkc1 : (k : Int) < (cn : Int) := by omega
      have hk1c : (k1 : Int) < (cn : Int) := by omega
      obtain ⟨sg, sc', e, -⟩ := own_some' HL.out.skips (by rw [HNE.out, HCNE.out]; omega)
      simp only [Value.slice.injEq] at e
      obtain ⟨rfl, -, rfl⟩ := e
      have hsl : sg < w.heap.size := (HL.out.skips.lt sg rfl).2
      have hcnl : Po.cnt l.length = cn := by rw [HNE.out, HCNE.out]
      have hska := skv_at l (k1 + 1) (Po.cnt l.length) (by rw [hcnl]; omega)
      have hskb := skv_at l k1 (Po.cnt l.length) (by rw [hcnl]; omega)
      have HSK : Hid (∀ W, Below w.heap.size w W → (W.cell? ⟨la, 3, none⟩ = some (.slice (some ⟨sg, 0, none⟩) cn sc) ∧ W.cell? ⟨sg, k * 2, none⟩ = some (.int .i64 pa) ∧ W.cell? ⟨sg, k1 * 2, none⟩ = some (.int .i64 pb)) ∧ (W.cell? ⟨la, 3, none⟩ = some (.slice (some ⟨sg, 0, none⟩) cn sc) ∧ W.cell? ⟨sg, k * 2 + 1, none⟩ = some (.int .i64 (qa : Nat)) ∧ W.cell? ⟨sg, k1 * 2 + 1, none⟩ = some (.int .i64 (qb : Nat)))) := Lib.hid (fun W hW => by
        have h3 : W.cell? ⟨la, 3, none⟩ = some (.slice (some ⟨sg, 0, none⟩) cn sc) := (blk_cell (HC.out _ hW) 3).trans rfl
        have g : ∀ j u, j < Po.cnt l.length * 2 → (skv l (Po.cnt l.length))[j]? = some u → W.cell? ⟨sg, j, none⟩ = some u := fun j u hj hu => ((hW.cell (p := ⟨sg, j, none⟩) hsl).trans (HL.out.skips.cellAt _ hj)).trans hu
        refine ⟨⟨h3, ?_, ?_⟩, h3, ?_, ?_⟩
        · rw [← hk, Nat.mul_comm, ← hpa]; exact g _ _ (by omega) hska.1
        · rw [Nat.mul_comm, ← hpb]; exact g _ _ (by omega) hskb.1
        · rw [← hk, Nat.mul_comm, ← hqa]; exact g _ _ (by omega) hska.2
        · rw [Nat.mul_comm, ← hqb]; exact g _ _ (by omega) hskb.2)
      have HLK : Hid (∀ W, Below w.heap.size w W → W.cell? ⟨la, 3, none⟩ = some (.slice (some ⟨sg, 0, none⟩) cn sc) ∧ W.cell? ⟨sg, k * 2, none⟩ = some (.int .i64 pa) ∧ W.cell? ⟨sg, k1 * 2, none⟩ = some (.int .i64 pb)) := Lib.hid (fun W hW => (HSK.out W hW).1)
      have HLQ : Hid (∀ W, Below w.heap.size w W → W.cell? ⟨la, 3, none⟩ = some (.slice (some ⟨sg, 0, none⟩) cn sc) ∧ W.cell? ⟨sg, k * 2 + 1, none⟩ = some (.int .i64 (qa : Nat)) ∧ W.cell? ⟨sg, k1 * 2 + 1, none⟩ = some (.int .i64 (qb : Nat))) := Lib.hid (fun W hW => (HSK.out W hW).2)
      obtain ⟨m, hm⟩ : ∃ m, bs.length = m := ⟨_, rfl⟩
      obtain ⟨b4, hb4⟩ : ∃ b, bs ++ Po.uvar d1 = b := ⟨_, rfl⟩
      have hb4l : b4.length < 200000 := by rw [← hb4, List.length_append]; have h1 := HENT.out; have h2 := Po.uvar_len d1; omega
      have hPA := putU_calls oA oC bs d1 W.drew (own_reads8 HOWN.out) hd1b (by have := HENT.out; omega)
      rw [hm, hb4] at hPA
      have HP1 := Lib.hid hPA
      have HB4L := Lib.hid hb4l
      have HKK := Lib.hid hk
      have HFIN : Hid (b4 ++ Po.uvar d2 = h0 ++ Po.entries l k) := Lib.hid (by rw [← hb4, HBS.out, ← hk, Po.entries, HEN.out]; simp only [List.append_assoc])
      have HD2B := Lib.hid hd2b
      have HKB : Hid (k ≤ 300) := Lib.hid (by have h1 := HCN.out; have h2 := HLN.out; omega)
      have HLT2 : Hid (k1 + 1 + 1 ≤ cn) := Lib.hid (by omega)
      rw [hm]
      clear hk hkI hzk2 hk16 hd1 hd1n hd1s hmono hmono2 hbs2 hqa hqb hd2 hpa hpb hcnl hska hskb hPA hb4l hb4 hm hkc hlt hk3 hd1b hd2b d3
      have hx1 := hq1.out
      have hx2 := hq2.out
      have hx3 := hq3.out
      have hx4 := hq4.out
      have hx5 := hq5.out
      have d3 : W.cell? ⟨la, 3, none⟩ = some (.slice (some ⟨sg, 0, none⟩) cn sc) := (HLK.out W HBD.out).1
      go_wp2
      refine start_ (n := 22) (S := fun w' => w'.cell? ⟨la, 3, none⟩ = some (.slice (some ⟨sg, 0, none⟩) cn sc) ∧ w'.cell? ⟨sg, k * 2, none⟩ = some (.int .i64 pa) ∧ w'.cell? ⟨sg, k1 * 2, none⟩ = some (.int .i64 pb)) (ds := []) #[false, false, false, false, false, false, false, false, false, false, false, false, false, false, false, false, false, false, false, false, false, false] (by kernel_rfl) rfl rfl (HLK.out _ HBD.out.drew) (fun hHeld => ?_)
      refine pure_ (i := 0) (N := some 33) (v := ?_) (a' := ?_) #[true, false, false, false, false, false, false, false, false, false, false, false, false, false, false, false, false, false, false, false, false, false] rfl rfl (by kernel_rfl) (fun _ _ _ h => h) (Or.inl ⟨by rfl, ?_⟩) ?_ ?_
      rotate_left
      · intro w'
        go_simp
        with_reducible rfl
      rotate_left
      · simp only [Act.put, List.setIfInBounds_toArray, List.set_cons_zero, List.set_cons_succ, i64_w, i32_w]
        rfl
      refine pure_ (i := 1) (N := some 34) (v := ?_) (a' := ?_) #[true, true, false, false, false, false, false, false, false, false, false, false, false, false, false, false, false, false, false, false, false, false] rfl rfl (by kernel_rfl) (fun _ _ _ h => h) (Or.inl ⟨by rfl, ?_⟩) ?_ ?_
      rotate_left
      · intro w'
        go_simp
        with_reducible rfl
      rotate_left
      · simp only [Act.put, List.setIfInBounds_toArray, List.set_cons_zero, List.set_cons_succ, i64_w, i32_w]
        rfl
      refine pure_ (i := 2) (N := some 35) (v := ?_) (a' := ?_) #[true, true, true, false, false, false, false, false, false, false, false, false, false, false, false, false, false, false, false, false, false, false] rfl rfl (by kernel_rfl) (fun _ _ _ h => h) (Or.inl ⟨by rfl, ?_⟩) ?_ ?_
      rotate_left
      · intro w'
        go_simp
        with_reducible rfl
      rotate_left
      · simp only [Act.put, List.setIfInBounds_toArray, List.set_cons_zero, List.set_cons_succ, i64_w, i32_w]
        rfl
      refine pure_ (i := 3) (N := some 36) (v := ?_) (a' := ?_) #[true, true, true, true, false, false, false, false, false, false, false, false, false, false, false, false, false, false, false, false, false, false] rfl rfl (by kernel_rfl) (fun _ _ _ h => h) (Or.inl ⟨by rfl, ?_⟩) ?_ ?_
      rotate_left
      · intro w'
        go_simp
        with_reducible rfl
      rotate_left
      · simp only [Act.put, List.setIfInBounds_toArray, List.set_cons_zero, List.set_cons_succ, i64_w, i32_w]
        rfl
      refine take_ (i := 4) (N := some 37) (v := ?_) (a' := ?_) #[true, true, true, true, true, false, false, false, false, false, false, false, false, false, false, false, false, false, false, false, false, false] rfl rfl (by kernel_rfl) (fun _ _ _ h => h) (Or.inl ⟨by rfl, ?_⟩) hHeld ?_ ?_
      rotate_left
      · rintro w' ⟨s0, s1, s2⟩
        go_simp
        with_reducible rfl
      rotate_left
      · simp only [Act.put, List.setIfInBounds_toArray, List.set_cons_zero, List.set_cons_succ, i64_w, i32_w]
        rfl
      refine pure_ (i := 5) (N := some 38) (v := ?_) (a' := ?_) #[true, true, true, true, true, true, false, false, false, false, false, false, false, false, false, false, false, false, false, false, false, false] rfl rfl (by kernel_rfl) (fun _ _ _ h => h) (Or.inl ⟨by rfl, ?_⟩) ?_ ?_
      rotate_left
      · intro w'
        go_simp
        with_reducible rfl
      rotate_left
      · simp only [Act.put, List.setIfInBounds_toArray, List.set_cons_zero, List.set_cons_succ, i64_w, i32_w]
        rfl
      refine pure_ (i := 6) (N := some 39) (v := ?_) (a' := ?_) #[true, true, true, true, true, true, true, false, false, false, false, false, false, false, false, false, false, false, false, false, false, false] rfl rfl (by kernel_rfl) (fun _ _ _ h => h) (Or.inl ⟨by rfl, ?_⟩) ?_ ?_
      rotate_left
      · intro w'
        go_simp
        with_reducible rfl
      rotate_left
      · simp only [Act.put, List.setIfInBounds_toArray, List.set_cons_zero, List.set_cons_succ, i64_w, i32_w]
        rfl
      refine pure_ (i := 7) (N := some 40) (v := ?_) (a' := ?_) #[true, true, true, true, true, true, true, true, false, false, false, false, false, false, false, false, false, false, false, false, false, false] rfl rfl (by kernel_rfl) (fun _ _ _ h => h) (Or.inl ⟨by rfl, ?_⟩) ?_ ?_
      rotate_left
      · intro w'
        go_simp
        with_reducible rfl
      rotate_left
      · simp only [Act.put, List.setIfInBounds_toArray, List.set_cons_zero, List.set_cons_succ, i64_w, i32_w]
        rfl
      refine take_ (i := 8) (N := some 41) (v := ?_) (a' := ?_) #[true, true, true, true, true, true, true, true, true, false, false, false, false, false, false, false, false, false, false, false, false, false] rfl rfl (by kernel_rfl) (fun _ _ _ h => h) (Or.inl ⟨by rfl, ?_⟩) hHeld ?_ ?_
      rotate_left
      · rintro w' ⟨s0, s1, s2⟩
        go_simp
        with_reducible rfl
      rotate_left
      · simp only [Act.put, List.setIfInBounds_toArray, List.set_cons_zero, List.set_cons_succ, i64_w, i32_w]
        rfl
      refine pure_ (i := 9) (N := some 42) (v := ?_) (a' := ?_) #[true, true, true, true, true, true, true, true, true, true, false, false, false, false, false, false, false, false, false, false, false, false] rfl rfl (by kernel_rfl) (fun _ _ _ h => h) (Or.inl ⟨by rfl, ?_⟩) ?_ ?_
      rotate_left
      · intro w'
        go_simp
        with_reducible rfl
      rotate_left
      · simp only [Act.put, List.setIfInBounds_toArray, List.set_cons_zero, List.set_cons_succ, i64_w, i32_w]
        rfl
      refine pure_ (i := 10) (N := some 43) (v := ?_) (a' := ?_) #[true, true, true, true, true, true, true, true, true, true, true, false, false, false, false, false, false, false, false, false, false, false] rfl rfl (by kernel_rfl) (fun _ _ _ h => h) (Or.inl ⟨by rfl, ?_⟩) ?_ ?_
      rotate_left
      · intro w'
        go_simp
        with_reducible rfl
      rotate_left
      · simp only [Act.put, List.setIfInBounds_toArray, List.set_cons_zero, List.set_cons_succ, i64_w, i32_w]
        rfl
      refine pure_ (i := 11) (N := some 44) (v := ?_) (a' := ?_) #[true, true, true, true, true, true, true, true, true, true, true, true, false, false, false, false, false, false, false, false, false, false] rfl rfl (by kernel_rfl) (fun _ _ _ h => h) (Or.inl ⟨by rfl, ?_⟩) ?_ ?_
      rotate_left
      · intro w'
        go_simp
        with_reducible rfl
      rotate_left
      · simp only [Act.put, List.setIfInBounds_toArray, List.set_cons_zero, List.set_cons_succ, i64_w, i32_w]
        rfl
      refine take_ (i := 12) (N := some 45) (v := ?_) (a' := ?_) #[true, true, true, true, true, true, true, true, true, true, true, true, true, false, false, false, false, false, false, false, false, false] rfl rfl (by kernel_rfl) (fun _ _ _ h => h) (Or.inl ⟨by rfl, ?_⟩) hHeld ?_ ?_
      rotate_left
      · rintro w' ⟨s0, s1, s2⟩
        go_simp
        with_reducible rfl
      rotate_left
      · simp only [Act.put, List.setIfInBounds_toArray, List.set_cons_zero, List.set_cons_succ, i64_w, i32_w]
        rfl
      refine pure_ (i := 13) (N := some 46) (v := ?_) (a' := ?_) #[true, true, true, true, true, true, true, true, true, true, true, true, true, true, false, false, false, false, false, false, false, false] rfl rfl (by kernel_rfl) (fun _ _ _ h => h) (Or.inl ⟨by rfl, ?_⟩) ?_ ?_
      rotate_left
      · intro w'
        go_simp
        with_reducible rfl
      rotate_left
      · simp only [Act.put, List.setIfInBounds_toArray, List.set_cons_zero, List.set_cons_succ, i64_w, i32_w]
        rfl
      refine pure_ (i := 14) (N := some 47) (v := ?_) (a' := ?_) #[true, true, true, true, true, true, true, true, true, true, true, true, true, true, true, false, false, false, false, false, false, false] rfl rfl (by kernel_rfl) (fun _ _ _ h => h) (Or.inl ⟨by rfl, ?_⟩) ?_ ?_
      rotate_left
      · intro w'
        go_simp
        with_reducible rfl
      rotate_left
      · simp only [Act.put, List.setIfInBounds_toArray, List.set_cons_zero, List.set_cons_succ, i64_w, i32_w]
        rfl
      refine pure_ (i := 15) (N := some 48) (v := ?_) (a' := ?_) #[true, true, true, true, true, true, true, true, true, true, true, true, true, true, true, true, false, false, false, false, false, false] rfl rfl (by kernel_rfl) (fun _ _ _ h => h) (Or.inl ⟨by rfl, ?_⟩) ?_ ?_
      rotate_left
      · intro w'
        go_simp
        with_reducible rfl
      rotate_left
      · simp only [Act.put, List.setIfInBounds_toArray, List.set_cons_zero, List.set_cons_succ, i64_w, i32_w]
        rfl
      refine pure_ (i := 16) (N := some 49) (v := ?_) (a' := ?_) #[true, true, true, true, true, true, true, true, true, true, true, true, true, true, true, true, true, false, false, false, false, false] rfl rfl (by kernel_rfl) (fun _ _ _ h => h) (Or.inl ⟨by rfl, ?_⟩) ?_ ?_
      rotate_left
      · intro w'
        go_simp
        with_reducible rfl
      rotate_left
      · simp only [Act.put, List.setIfInBounds_toArray, List.set_cons_zero, List.set_cons_succ, i64_w, i32_w]
        rfl
      refine take_ (i := 17) (N := some 50) (v := ?_) (a' := ?_) #[true, true, true, true, true, true, true, true, true, true, true, true, true, true, true, true, true, true, false, false, false, false] rfl rfl (by kernel_rfl) (fun _ _ _ h => h) (Or.inl ⟨by rfl, ?_⟩) hHeld ?_ ?_
      rotate_left
      · rintro w' ⟨s0, s1, s2⟩
        go_simp
        with_reducible rfl
      rotate_left
      · simp only [Act.put, List.setIfInBounds_toArray, List.set_cons_zero, List.set_cons_succ, i64_w, i32_w]
        rfl
      refine pure_ (i := 18) (N := some 51) (v := ?_) (a' := ?_) #[true, true, true, true, true, true, true, true, true, true, true, true, true, true, true, true, true, true, true, false, false, false] rfl rfl (by kernel_rfl) (fun _ _ _ h => h) (Or.inl ⟨by rfl, ?_⟩) ?_ ?_
      rotate_left
      · intro w'
        go_simp
        with_reducible rfl
      rotate_left
      · simp only [Act.put, List.setIfInBounds_toArray, List.set_cons_zero, List.set_cons_succ, i64_w, i32_w]
        rfl
      refine pure_ (i := 19) (N := some 52) (v := ?_) (a' := ?_) #[true, true, true, true, true, true, true, true, true, true, true, true, true, true, true, true, true, true, true, true, false, false] rfl rfl (by kernel_rfl) (fun _ _ _ h => h) (Or.inl ⟨by rfl, ?_⟩) ?_ ?_
      rotate_left
      · intro w'
        go_simp
        with_reducible rfl
      rotate_left
      · simp only [Act.put, List.setIfInBounds_toArray, List.set_cons_zero, List.set_cons_succ, i64_w, i32_w]
        rfl
      refine one_ (i := 20) (N := some 53) #[true, true, true, true, true, true, true, true, true, true, true, true, true, true, true, true, true, true, true, true, true, false] rfl rfl (by kernel_rfl) (by decide) (fun K hK => ?_)
      refine goes_ Try.func71 (by kernel_rfl) rfl #[.slice oA m oC, .int .u64 (d1 : Nat)] (by rfl) rfl rfl (by (try simp only [List.map_toArray, List.map_cons, List.map_nil]); first | done | rfl) ?_
      with_reducible refine (HP1.out).mono ?_
      rintro e w4 ⟨v4, rfl, ho, hb⟩
      have HO_w4 := Lib.hid ho
      have HB_w4 := Lib.hid hb
      clear ho hb
      refine ⟨_, rfl, ?_⟩
      refine hK.out _ _ (HLK.out _ (HBD.out.drew.trans (HB_w4.out.mono HBD.out.drew.size))) (fun hHeld => ?_)
      clear hK K
      refine norm_ (a' := ?_) ?_ ?_
      rotate_left
      · show Act.put _ (some 53) _ = _
        simp only [Act.put, List.setIfInBounds_toArray, List.set_cons_zero, List.set_cons_succ, i64_w, i32_w]
        rfl
      refine pure_ (i := 21) (N := some 3) (v := ?_) (a' := ?_) #[true, true, true, true, true, true, true, true, true, true, true, true, true, true, true, true, true, true, true, true, true, true] rfl rfl (by kernel_rfl) (fun _ _ _ h => h) (Or.inl ⟨by rfl, ?_⟩) ?_ ?_
      rotate_left
      · intro w'
        go_simp
        with_reducible rfl
      rotate_left
      · simp only [Act.put, List.setIfInBounds_toArray, List.set_cons_zero, List.set_cons_succ, i64_w, i32_w]
        rfl
      refine done_ (by kernel_rfl) ?_
      obtain ⟨oA4, oC4, rfl⟩ := own_slice HO_w4.out
      have hbd4 : Below w.heap.size w w4 := HBD.out.drew.trans (HB_w4.out.mono HBD.out.drew.size)
      have HBD4 := Lib.hid hbd4
      have HO4 := Lib.hid (own_less HO_w4.out HBD.out.drew.size)
      have hPB := putU_calls oA4 oC4 b4 d2 w4.drew (own_reads8 HO4.out) HD2B.out (by have := HB4L.out; omega)
      obtain ⟨m4, hm4⟩ : ∃ m, b4.length = m := ⟨_, rfl⟩
      rw [hm4, HFIN.out] at hPB
      have HP2 := Lib.hid hPB
      rw [hm4]
      clear hPB hbd4 hm4
      go_wp2
      refine start_ (n := 22) (S := fun w' => w'.cell? ⟨la, 3, none⟩ = some (.slice (some ⟨sg, 0, none⟩) cn sc) ∧ w'.cell? ⟨sg, k * 2 + 1, none⟩ = some (.int .i64 (qa : Nat)) ∧ w'.cell? ⟨sg, k1 * 2 + 1, none⟩ = some (.int .i64 (qb : Nat))) (ds := []) #[false, false, false, false, false, false, false, false, false, false, false, false, false, false, false, false, false, false, false, false, false, false] (by kernel_rfl) rfl rfl (HLQ.out _ HBD4.out.drew) (fun hHeld => ?_)
      refine pure_ (i := 0) (N := some 54) (v := ?_) (a' := ?_) #[true, false, false, false, false, false, false, false, false, false, false, false, false, false, false, false, false, false, false, false, false, false] rfl rfl (by kernel_rfl) (fun _ _ _ h => h) (Or.inl ⟨by rfl, ?_⟩) ?_ ?_
      rotate_left
      · intro w'
        go_simp
        with_reducible rfl
      rotate_left
      · simp only [Act.put, List.setIfInBounds_toArray, List.set_cons_zero, List.set_cons_succ, i64_w, i32_w]
        rfl
      refine pure_ (i := 1) (N := some 55) (v := ?_) (a' := ?_) #[true, true, false, false, false, false, false, false, false, false, false, false, false, false, false, false, false, false, false, false, false, false] rfl rfl (by kernel_rfl) (fun _ _ _ h => h) (Or.inl ⟨by rfl, ?_⟩) ?_ ?_
      rotate_left
      · intro w'
        go_simp
        with_reducible rfl
      rotate_left
      · simp only [Act.put, List.setIfInBounds_toArray, List.set_cons_zero, List.set_cons_succ, i64_w, i32_w]
        rfl
      refine pure_ (i := 2) (N := some 56) (v := ?_) (a' := ?_) #[true, true, true, false, false, false, false, false, false, false, false, false, false, false, false, false, false, false, false, false, false, false] rfl rfl (by kernel_rfl) (fun _ _ _ h => h) (Or.inl ⟨by rfl, ?_⟩) ?_ ?_
      rotate_left
      · intro w'
        go_simp
        with_reducible rfl
      rotate_left
      · simp only [Act.put, List.setIfInBounds_toArray, List.set_cons_zero, List.set_cons_succ, i64_w, i32_w]
        rfl
      refine pure_ (i := 3) (N := some 57) (v := ?_) (a' := ?_) #[true, true, true, true, false, false, false, false, false, false, false, false, false, false, false, false, false, false, false, false, false, false] rfl rfl (by kernel_rfl) (fun _ _ _ h => h) (Or.inl ⟨by rfl, ?_⟩) ?_ ?_
      rotate_left
      · intro w'
        go_simp
        with_reducible rfl
      rotate_left
      · simp only [Act.put, List.setIfInBounds_toArray, List.set_cons_zero, List.set_cons_succ, i64_w, i32_w]
        rfl
      refine take_ (i := 4) (N := some 58) (v := ?_) (a' := ?_) #[true, true, true, true, true, false, false, false, false, false, false, false, false, false, false, false, false, false, false, false, false, false] rfl rfl (by kernel_rfl) (fun _ _ _ h => h) (Or.inl ⟨by rfl, ?_⟩) hHeld ?_ ?_
      rotate_left
      · rintro w' ⟨s0, s1, s2⟩
        go_simp
        with_reducible rfl
      rotate_left
      · simp only [Act.put, List.setIfInBounds_toArray, List.set_cons_zero, List.set_cons_succ, i64_w, i32_w]
        rfl
      refine pure_ (i := 5) (N := some 59) (v := ?_) (a' := ?_) #[true, true, true, true, true, true, false, false, false, false, false, false, false, false, false, false, false, false, false, false, false, false] rfl rfl (by kernel_rfl) (fun _ _ _ h => h) (Or.inl ⟨by rfl, ?_⟩) ?_ ?_
      rotate_left
      · intro w'
        go_simp
        with_reducible rfl
      rotate_left
      · simp only [Act.put, List.setIfInBounds_toArray, List.set_cons_zero, List.set_cons_succ, i64_w, i32_w]
        rfl
      refine pure_ (i := 6) (N := some 60) (v := ?_) (a' := ?_) #[true, true, true, true, true, true, true, false, false, false, false, false, false, false, false, false, false, false, false, false, false, false] rfl rfl (by kernel_rfl) (fun _ _ _ h => h) (Or.inl ⟨by rfl, ?_⟩) ?_ ?_
      rotate_left
      · intro w'
        go_simp
        with_reducible rfl
      rotate_left
      · simp only [Act.put, List.setIfInBounds_toArray, List.set_cons_zero, List.set_cons_succ, i64_w, i32_w]
        rfl
      refine pure_ (i := 7) (N := some 61) (v := ?_) (a' := ?_) #[true, true, true, true, true, true, true, true, false, false, false, false, false, false, false, false, false, false, false, false, false, false] rfl rfl (by kernel_rfl) (fun _ _ _ h => h) (Or.inl ⟨by rfl, ?_⟩) ?_ ?_
      rotate_left
      · intro w'
        go_simp
        with_reducible rfl
      rotate_left
      · simp only [Act.put, List.setIfInBounds_toArray, List.set_cons_zero, List.set_cons_succ, i64_w, i32_w]
        rfl
      refine take_ (i := 8) (N := some 62) (v := ?_) (a' := ?_) #[true, true, true, true, true, true, true, true, true, false, false, false, false, false, false, false, false, false, false, false, false, false] rfl rfl (by kernel_rfl) (fun _ _ _ h => h) (Or.inl ⟨by rfl, ?_⟩) hHeld ?_ ?_
      rotate_left
      · rintro w' ⟨s0, s1, s2⟩
        go_simp
        with_reducible rfl
      rotate_left
      · simp only [Act.put, List.setIfInBounds_toArray, List.set_cons_zero, List.set_cons_succ, i64_w, i32_w]
        rfl
      refine pure_ (i := 9) (N := some 63) (v := ?_) (a' := ?_) #[true, true, true, true, true, true, true, true, true, true, false, false, false, false, false, false, false, false, false, false, false, false] rfl rfl (by kernel_rfl) (fun _ _ _ h => h) (Or.inl ⟨by rfl, ?_⟩) ?_ ?_
      rotate_left
      · intro w'
        go_simp
        with_reducible rfl
      rotate_left
      · simp only [Act.put, List.setIfInBounds_toArray, List.set_cons_zero, List.set_cons_succ, i64_w, i32_w]
        rfl
      refine pure_ (i := 10) (N := some 64) (v := ?_) (a' := ?_) #[true, true, true, true, true, true, true, true, true, true, true, false, false, false, false, false, false, false, false, false, false, false] rfl rfl (by kernel_rfl) (fun _ _ _ h => h) (Or.inl ⟨by rfl, ?_⟩) ?_ ?_
      rotate_left
      · intro w'
        go_simp
        with_reducible rfl
      rotate_left
      · simp only [Act.put, List.setIfInBounds_toArray, List.set_cons_zero, List.set_cons_succ, i64_w, i32_w]
        rfl
      refine pure_ (i := 11) (N := some 65) (v := ?_) (a' := ?_) #[true, true, true, true, true, true, true, true, true, true, true, true, false, false, false, false, false, false, false, false, false, false] rfl rfl (by kernel_rfl) (fun _ _ _ h => h) (Or.inl ⟨by rfl, ?_⟩) ?_ ?_
      rotate_left
      · intro w'
        go_simp
        with_reducible rfl
      rotate_left
      · simp only [Act.put, List.setIfInBounds_toArray, List.set_cons_zero, List.set_cons_succ, i64_w, i32_w]
        rfl
      refine take_ (i := 12) (N := some 66) (v := ?_) (a' := ?_) #[true, true, true, true, true, true, true, true, true, true, true, true, true, false, false, false, false, false, false, false, false, false] rfl rfl (by kernel_rfl) (fun _ _ _ h => h) (Or.inl ⟨by rfl, ?_⟩) hHeld ?_ ?_
      rotate_left
      · rintro w' ⟨s0, s1, s2⟩
        go_simp
        with_reducible rfl
      rotate_left
      · simp only [Act.put, List.setIfInBounds_toArray, List.set_cons_zero, List.set_cons_succ, i64_w, i32_w]
        rfl
      refine pure_ (i := 13) (N := some 67) (v := ?_) (a' := ?_) #[true, true, true, true, true, true, true, true, true, true, true, true, true, true, false, false, false, false, false, false, false, false] rfl rfl (by kernel_rfl) (fun _ _ _ h => h) (Or.inl ⟨by rfl, ?_⟩) ?_ ?_
      rotate_left
      · intro w'
        go_simp
        with_reducible rfl
      rotate_left
      · simp only [Act.put, List.setIfInBounds_toArray, List.set_cons_zero, List.set_cons_succ, i64_w, i32_w]
        rfl
      refine pure_ (i := 14) (N := some 68) (v := ?_) (a' := ?_) #[true, true, true, true, true, true, true, true, true, true, true, true, true, true, true, false, false, false, false, false, false, false] rfl rfl (by kernel_rfl) (fun _ _ _ h => h) (Or.inl ⟨by rfl, ?_⟩) ?_ ?_
      rotate_left
      · intro w'
        go_simp
        with_reducible rfl
      rotate_left
      · simp only [Act.put, List.setIfInBounds_toArray, List.set_cons_zero, List.set_cons_succ, i64_w, i32_w]
        rfl
      refine pure_ (i := 15) (N := some 69) (v := ?_) (a' := ?_) #[true, true, true, true, true, true, true, true, true, true, true, true, true, true, true, true, false, false, false, false, false, false] rfl rfl (by kernel_rfl) (fun _ _ _ h => h) (Or.inl ⟨by rfl, ?_⟩) ?_ ?_
      rotate_left
      · intro w'
        go_simp
        with_reducible rfl
      rotate_left
      · simp only [Act.put, List.setIfInBounds_toArray, List.set_cons_zero, List.set_cons_succ, i64_w, i32_w]
        rfl
      refine pure_ (i := 16) (N := some 70) (v := ?_) (a' := ?_) #[true, true, true, true, true, true, true, true, true, true, true, true, true, true, true, true, true, false, false, false, false, false] rfl rfl (by kernel_rfl) (fun _ _ _ h => h) (Or.inl ⟨by rfl, ?_⟩) ?_ ?_
      rotate_left
      · intro w'
        go_simp
        with_reducible rfl
      rotate_left
      · simp only [Act.put, List.setIfInBounds_toArray, List.set_cons_zero, List.set_cons_succ, i64_w, i32_w]
        rfl
      refine take_ (i := 17) (N := some 71) (v := ?_) (a' := ?_) #[true, true, true, true, true, true, true, true, true, true, true, true, true, true, true, true, true, true, false, false, false, false] rfl rfl (by kernel_rfl) (fun _ _ _ h => h) (Or.inl ⟨by rfl, ?_⟩) hHeld ?_ ?_
      rotate_left
      · rintro w' ⟨s0, s1, s2⟩
        go_simp
        with_reducible rfl
      rotate_left
      · simp only [Act.put, List.setIfInBounds_toArray, List.set_cons_zero, List.set_cons_succ, i64_w, i32_w]
        rfl
      refine pure_ (i := 18) (N := some 72) (v := ?_) (a' := ?_) #[true, true, true, true, true, true, true, true, true, true, true, true, true, true, true, true, true, true, true, false, false, false] rfl rfl (by kernel_rfl) (fun _ _ _ h => h) (Or.inl ⟨by rfl, ?_⟩) ?_ ?_
      rotate_left
      · intro w'
        go_simp
        with_reducible rfl
      rotate_left
      · simp only [Act.put, List.setIfInBounds_toArray, List.set_cons_zero, List.set_cons_succ, i64_w, i32_w]
        rfl
      refine pure_ (i := 19) (N := some 73) (v := ?_) (a' := ?_) #[true, true, true, true, true, true, true, true, true, true, true, true, true, true, true, true, true, true, true, true, false, false] rfl rfl (by kernel_rfl) (fun _ _ _ h => h) (Or.inl ⟨by rfl, ?_⟩) ?_ ?_
      rotate_left
      · intro w'
        go_simp
        with_reducible rfl
      rotate_left
      · simp only [Act.put, List.setIfInBounds_toArray, List.set_cons_zero, List.set_cons_succ, i64_w, i32_w]
        rfl
      refine one_ (i := 20) (N := some 74) #[true, true, true, true, true, true, true, true, true, true, true, true, true, true, true, true, true, true, true, true, true, false] rfl rfl (by kernel_rfl) (by decide) (fun K hK => ?_)
      refine goes_ Try.func71 (by kernel_rfl) rfl #[.slice oA4 m4 oC4, .int .u64 (d2 : Nat)] (by rfl) rfl rfl (by (try simp only [List.map_toArray, List.map_cons, List.map_nil]); first | done | rfl) ?_
      with_reducible refine (HP2.out).mono ?_
      rintro e w5 ⟨v5, rfl, ho, hb⟩
      have HO_w5 := Lib.hid ho
      have HB_w5 := Lib.hid hb
      clear ho hb
      refine ⟨_, rfl, ?_⟩
      refine hK.out _ _ (HLQ.out _ (HBD4.out.drew.trans (HB_w5.out.mono HBD4.out.drew.size))) (fun hHeld => ?_)
      clear hK K
      refine norm_ (a' := ?_) ?_ ?_
      rotate_left
      · show Act.put _ (some 74) _ = _
        simp only [Act.put, List.setIfInBounds_toArray, List.set_cons_zero, List.set_cons_succ, i64_w, i32_w]
        rfl
      refine pure_ (i := 21) (N := some 3) (v := ?_) (a' := ?_) #[true, true, true, true, true, true, true, true, true, true, true, true, true, true, true, true, true, true, true, true, true, true] rfl rfl (by kernel_rfl) (fun _ _ _ h => h) (Or.inl ⟨by rfl, ?_⟩) ?_ ?_
      rotate_left
      · intro w'
        go_simp
        with_reducible rfl
      rotate_left
      · simp only [Act.put, List.setIfInBounds_toArray, List.set_cons_zero, List.set_cons_succ, i64_w, i32_w]
        rfl
      refine done_ (by kernel_rfl) ?_
      have hbd5 : Below w.heap.size w w5 := HBD4.out.drew.trans (HB_w5.out.mono HBD4.out.drew.size)
      have HBD5 := Lib.hid hbd5
      have HO5 := Lib.hid (own_less HO_w5.out HBD4.out.drew.size)
      have HWK6 : Hid (RowKit.wrap64 ((k : Int) + 1) = (k : Int) + 1) := Lib.hid (by have := HKB.out; clear hx1 hx2 hx3 hx4 hx5; exact wsmall' rfl (by omega) (by omega))
      clear hx1 hx2 hx3 hx4 hx5 hbd5 d3
      have hx6 := HWK6.out
      go_wp2
      go_roundg (300 - k)
      case measure => clear hx6; have := HKB.out; have := HKK.out; omega
      case rel => exact ⟨k, _, _, rfl, by first | rfl | exact congrArg (Value.int .i64) HWK6.out, HKB.out, Nat.le_refl _, .inl (by have := HLT2.out; have := HKK.out; clear hx6; omega), rfl, HO5.out, HBD5.out⟩
    · have hz : decide ((k1 : Int) + 1 < (cn : Int)) = false := by simp; omega
      have hge : cn ≤ k1 + 1 := by omega
      have HPAY : Hid (bs = Po.payload l) := Lib.hid (by
        have h1 : Po.cnt l.length - 1 = k1 := by rw [HNE.out, HCNE.out]; omega
        have h2 := HH0.out.1
        unfold hd at h2
        rw [HBS.out, ← h2]
        unfold Po.payload
        rw [h1])
      have hcap : bs.length ≤ oC := by
        rcases HOWN.out.2 with ⟨e, h0⟩ | ⟨g, cap, cur, e, _, _, hc, _⟩
        · omega
        · simp only [Value.slice.injEq] at e
          omega
      have hrd := own_reads8 HOWN.out
      have hcells : ∀ ad, oA = some ad → ∀ j, j < bs.length → W.cell? (ad.add j) = some (.int .u8 ((bs.getD j 0).toNat : Nat)) := fun ad e j hj => by
        obtain ⟨ad', e', hc⟩ := hrd.2.2 (by omega)
        rw [e] at e'
        obtain rfl := Option.some.inj e'
        rw [hc j hj, Given.at_ints]
      have hnone : oA = none → bs = [] := fun e => by
        rcases Nat.eq_zero_or_pos bs.length with h0 | h0
        · exact List.eq_nil_of_length_eq_zero h0
        · obtain ⟨ad', e', _⟩ := hrd.2.2 h0
          rw [e] at e'; cases e'
      have HSEAL := Lib.hid (seal_any oA oC bs W (by have := HENT.out; omega) (by have := HENT.out; omega) hnone hcells hcap)
      clear hcap hrd hcells hnone hkc hk3 hkx hge
      go_wp2_with (go_at_call 30; (with_reducible refine HSEAL.out.mono ?_); rintro e w6 ⟨⟨v6, rfl, ho6⟩, hb6⟩; have HO6 := Lib.hid ho6; have HB6 := Lib.hid hb6; clear ho6 hb6)
      go_ret
      have hE : Po.Enc l = Ck.shutIt bs := by unfold Po.Enc; rw [HPAY.out]
      rw [hE]
      exact ⟨v6, rfl, own_less HO6.out HBD.out.size, HBD.out.trans (HB6.out.mono HBD.out.size)⟩
end Go.Proofs.Ytmeojlamadcedaa
