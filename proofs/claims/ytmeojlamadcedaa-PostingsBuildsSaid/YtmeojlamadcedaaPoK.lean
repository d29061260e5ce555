/- postings.List: Seek, Rank.
   Conditions: those of the theorems. -/
import Derived.Test.YtmeojlamadcedaaPoP
import Derived.Test.YtmeojlamadcedaaSearch
import Derived.RegionTactic
import Derived.BigQuiet
import Derived.OwnWalk
namespace Go.Proofs.Ytmeojlamadcedaa
set_option linter.unusedSimpArgs false
open Go.RowKit Go.Sort Go.Proofs.YtmeojlamadcedaaW.PrintWords Go.Proofs.YtmeojlamadcedaaW.PrintLast

set_option maxHeartbeats 1000000 in
theorem sk_closure (bl bp la sg cn sc i : Nat) (p y : Int) (W : World) (hi : i < cn)
    (h1 : W.cell? ⟨bl, 0, none⟩ = some (.pointer (some ⟨la, 0, none⟩))) (h2 : W.cell? ⟨bp, 0, none⟩ = some (.int .i64 p)) (h3 : W.cell? ⟨la, 3, none⟩ = some (.slice (some ⟨sg, 0, none⟩) cn sc))
    (h4 : W.cell? ⟨sg, i * 2, none⟩ = some (.int .i64 y)) :
    Calls Try.prog 79 (#[.int .i64 i] ++ #[.pointer (some ⟨bl, 0, none⟩), .pointer (some ⟨bp, 0, none⟩)]) W fun e w' => e = .returned (.bool (decide (p ≤ y))) ∧ ∃ q, w' = W.drewN q := by
  have hi0 : (0 : Int) ≤ (i : Int) := by omega
  have hic : (i : Int) < (cn : Int) := by omega
  clear hi
  go_enter Try.func79, Try.ntmps79
  go_wp2
  go_region
  all_goals go_wp2
  all_goals go_ret
  all_goals exact ⟨by first | rfl | simp, 1, rfl⟩

theorem own_some' {w : World} {base n : Nat} {e : TypeId} {size : Nat} {v : Value} {xs : List Value} (h : w.ownsRow base e size v n xs) (hn : 0 < n) : ∃ g cap, v = .slice (some ⟨g, 0, none⟩) n cap ∧ n ≤ cap := by
  rcases h.2 with ⟨_, h0⟩ | ⟨g, cap, cur, hv, _, _, hc, _⟩
  · omega
  · exact ⟨g, cap, hv, hc⟩

/-- What is known of a list in a later world. -/
structure Lk (l : List Int) (la sg sc : Nat) (W : World) : Prop where
  c3 : W.cell? ⟨la, 3, none⟩ = some (.slice (some ⟨sg, 0, none⟩) (Po.cnt l.length) sc)
  sk : ∀ j, j < Po.cnt l.length → W.cell? ⟨sg, j * 2, none⟩ = some (.int .i64 (l.getD (16 * j) 0))

theorem rk_sk (l : List Int) (p : Int) (a : Nat) (h : Po.Valid l) (ha : a < Po.cnt l.length) : decide (p ≤ l.getD (16 * a) 0) = decide (Po.cnt (Po.rk l p) ≤ a) := by
  have hc : Po.cnt l.length = (l.length + 15) / 16 := rfl
  have hr : Po.cnt (Po.rk l p) = (Po.rk l p + 15) / 16 := rfl
  rw [hr]
  have hle := Po.rk_le l p
  by_cases h1 : 16 * a < Po.rk l p
  · have h2 := Po.rk_lt l p (16 * a) h1
    rw [decide_eq_false (by omega), decide_eq_false (by omega)]
  · have h2 := Po.rk_ge l p (by omega)
    have h3 := Po.valid_le h (i := Po.rk l p) (j := 16 * a) (by omega) (by omega)
    rw [decide_eq_true (by omega), decide_eq_true (by omega)]

theorem sk_search (bl bp la sg sc : Nat) (l : List Int) (p : Int) (W : World) (hv : Po.Valid l) (hlen : l.length ≤ 4096)
    (h1 : W.cell? ⟨bl, 0, none⟩ = some (.pointer (some ⟨la, 0, none⟩))) (h2 : W.cell? ⟨bp, 0, none⟩ = some (.int .i64 p)) (h3 : Lk l la sg sc W) :
    Calls Try.prog 78 #[.int .i64 (Po.cnt l.length : Nat), .func (.func 79) #[] #[.pointer (some ⟨bl, 0, none⟩), .pointer (some ⟨bp, 0, none⟩)]] W fun e w' => e = .returned (.int .i64 (Po.cnt (Po.rk l p) : Nat)) ∧ ∃ q, w' = W.drewN q := by
  have eg : ∀ args w, (callFunc 79 args).run Try.prog w = .ok (.enter 79 args) w := enters_of Try.func79 (by kernel_rfl) rfl
  have hle := Po.rk_le l p
  have hc : Po.cnt l.length = (l.length + 15) / 16 := rfl
  have hr : Po.cnt (Po.rk l p) = (Po.rk l p + 15) / 16 := rfl
  exact search_any 79 #[.pointer (some ⟨bl, 0, none⟩), .pointer (some ⟨bp, 0, none⟩)] (Po.cnt l.length) (fun i => decide (p ≤ l.getD (16 * i) 0)) W (Po.cnt (Po.rk l p)) (by omega) eg (by omega)
    (fun q i hi => sk_closure bl bp la sg (Po.cnt l.length) sc i p _ (W.drewN q) hi h1 h2 h3.c3 (h3.sk i hi))
    (fun a ha => rk_sk l p a hv ha)
theorem sk_search0 (cb : Array Value) (W : World) :
    Calls Try.prog 78 #[.int .i64 ((0 : Nat) : Int), .func (.func 79) #[] cb] W fun e w' => e = .returned (.int .i64 ((0 : Nat) : Int)) ∧ ∃ q, w' = W.drewN q := by
  have eg : ∀ args w, (callFunc 79 args).run Try.prog w = .ok (.enter 79 args) w := enters_of Try.func79 (by kernel_rfl) rfl
  exact search_any 79 cb 0 (fun _ => true) W 0 (Nat.le_refl _) eg (by omega) (fun q i hi => by omega) (fun a ha => by omega)

/-- What Seek leaves behind. -/
def SeekPost (l : List Int) (p : Int) (w : World) (e : Ending) (w' : World) : Prop :=
  e = .returned (.tuple #[.int .i64 (Po.seekP l p), .int .i64 (Po.rk l p : Nat), .bool (decide (Po.rk l p < l.length))]) ∧ Below w.heap.size w w'

/-- The two captured variables' world, and the search in it. -/
abbrev W0 (w : World) (la : Nat) (p : Int) : World := (w.alloc (.cells #[.pointer (some ⟨la, 0, none⟩)] 39)).alloc (.cells #[.int .i64 p] 3)
theorem W0_below (w : World) (la : Nat) (p : Int) : Below w.heap.size w (W0 w la p) := ((Below.refl _ w).alloc (Nat.le_refl _) _).alloc (by simp) _
theorem W0_cells (w : World) (la : Nat) (p : Int) : (W0 w la p).cell? ⟨w.heap.size, 0, none⟩ = some (.pointer (some ⟨la, 0, none⟩)) ∧ (W0 w la p).cell? ⟨w.heap.size + 1, 0, none⟩ = some (.int .i64 p) := by
  constructor <;> simp [go_sem]
theorem seek_first (base la : Nat) (gv sv : Value) (l : List Int) (p : Int) (w : World) (hL : IsList base w la gv sv l) :
    Calls Try.prog 78 #[.int .i64 (Po.cnt l.length : Nat), .func (.func 79) #[] #[.pointer (some ⟨w.heap.size, 0, none⟩), .pointer (some ⟨w.heap.size + 1, 0, none⟩)]] (W0 w la p)
      fun e w' => e = .returned (.int .i64 (Po.cnt (Po.rk l p) : Nat)) ∧ Below w.heap.size w w' ∧ w'.cell? ⟨w.heap.size, 0, none⟩ = some (.pointer (some ⟨la, 0, none⟩)) ∧ w'.cell? ⟨w.heap.size + 1, 0, none⟩ = some (.int .i64 p) := by
  have hb := W0_below w la p
  obtain ⟨h1, h2⟩ := W0_cells w la p
  have fin : ∀ e w', (e = Ending.returned (.int .i64 (Po.cnt (Po.rk l p) : Nat)) ∧ ∃ q, w' = (W0 w la p).drewN q) → e = Ending.returned (.int .i64 (Po.cnt (Po.rk l p) : Nat)) ∧ Below w.heap.size w w' ∧ w'.cell? ⟨w.heap.size, 0, none⟩ = some (.pointer (some ⟨la, 0, none⟩)) ∧ w'.cell? ⟨w.heap.size + 1, 0, none⟩ = some (.int .i64 p) := by
    rintro e w' ⟨he, q, rfl⟩
    exact ⟨he, below_drewN hb q, h1, h2⟩
  rcases Nat.eq_zero_or_pos (Po.cnt l.length) with hz | hz
  · have hl : l.length = 0 := by unfold Po.cnt at hz; omega
    have hrk : Po.rk l p = 0 := by have := Po.rk_le l p; omega
    have hc0 : Po.cnt (Po.rk l p) = 0 := by rw [hrk]; rfl
    rw [hz]
    exact (sk_search0 _ _).mono fun e w' h => fin e w' (by rw [hc0]; exact h)
  · obtain ⟨sg, sc, rfl, -⟩ := own_some' hL.skips hz
    have hsl : sg < w.heap.size := (hL.skips.lt sg rfl).2
    refine (sk_search _ _ la sg sc l p _ hL.valid hL.len h1 h2 ⟨?_, fun j hj => ?_⟩).mono fin
    · exact (blk_cell (blk_below hL.blk hb) 3).trans rfl
    · have h := (skv_at l j (Po.cnt l.length) hj).1
      rw [Nat.mul_comm]
      exact ((hb.cell (p := ⟨sg, 2 * j, none⟩) hsl).trans (hL.skips.cellAt _ (by omega))).trans h

theorem part_len (l : List Int) (k : Nat) : (part l k).length = min 16 (l.length - 16 * k) := by unfold part; rw [List.length_take, List.length_drop]
theorem part_at (l : List Int) (k j : Nat) (h : j < (part l k).length) : (part l k).getD j 0 = l.getD (16 * k + j) 0 := by
  rw [part_len] at h
  unfold part
  rw [List.getD_eq_getElem?_getD, List.getElem?_take_of_lt (by omega), List.getElem?_drop, List.getD_eq_getElem?_getD]

set_option maxHeartbeats 4000000 in
set_option maxRecDepth 100000 in
theorem seek_calls (base la : Nat) (gv sv : Value) (l : List Int) (p : Int) (w : World) (hL : IsList base w la gv sv l) :
    Calls Try.prog 40 #[.pointer (some ⟨la, 0, none⟩), .int .i64 p] w fun e w' => SeekPost l p w e w' := by
  obtain ⟨sA, sC, rfl⟩ := own_slice hL.skips
  have hal : la < w.heap.size := blk_lt hL.blk
  have HL := Lib.hid hL
  have HF := Lib.hid (seek_first base la gv _ l p w hL)
  have c3a : ∀ o o2, ((w.alloc o).alloc o2).cell? ⟨la, 3, none⟩ = some (.slice sA (Po.cnt l.length) sC) := fun o o2 => (blk_cell (blk_alloc (blk_alloc hL.blk o) o2) 3).trans rfl
  have HC : Hid (∀ W, Below w.heap.size w W → W.cell? ⟨la, 3, none⟩ = some (.slice sA (Po.cnt l.length) sC) ∧ W.cell? ⟨la, 0, none⟩ = some (.int .i64 (l.length : Nat))) := Lib.hid (fun W hW => ⟨(blk_cell (blk_below hL.blk hW) 3).trans rfl, (blk_cell (blk_below hL.blk hW) 0).trans rfl⟩)
  have HLE := Lib.hid (Po.rk_le l p)
  have HLEN := Lib.hid hL.len
  obtain ⟨k, hk⟩ : ∃ k, Po.cnt (Po.rk l p) = k := ⟨_, rfl⟩
  rw [hk] at HF
  have HK := Lib.hid hk
  clear hL hk
  by_cases hk0 : k = 0
  · have hkp : decide ((0 : Int) < (k : Int)) = false := by simp; omega
    have hkp2 : decide (0 < k) = false := by simp; omega
    have hrk0 : Po.rk l p = 0 := by have h := HK.out; unfold Po.cnt at h; omega
    have hcn : Po.cnt l.length = (l.length + 15) / 16 := rfl
    by_cases hz : 0 < Po.cnt l.length
    · obtain ⟨sg, sc, e, -⟩ := own_some' HL.out.skips hz
      simp only [Value.slice.injEq] at e
      obtain ⟨rfl, -, rfl⟩ := e
      have hsl : sg < w.heap.size := (HL.out.skips.lt sg rfl).2
      obtain ⟨x, hx⟩ : ∃ x, l.getD 0 0 = x := ⟨_, rfl⟩
      have HCO : Hid (∀ W, Below w.heap.size w W → W.cell? ⟨sg, 0, none⟩ = some (.int .i64 x)) := Lib.hid (fun W hW => by
        have h := (skv_at l 0 (Po.cnt l.length) hz).1
        rw [← hx]
        exact ((hW.cell (p := ⟨sg, 2 * 0, none⟩) hsl).trans (HL.out.skips.cellAt _ (by omega))).trans h)
      have HRES : Hid (Po.seekP l p = x ∧ Po.rk l p = 0 ∧ Po.rk l p < l.length) := Lib.hid ⟨by unfold Po.seekP; rw [hrk0]; exact hx, hrk0, by omega⟩
      have hkc : (0 : Int) < (Po.cnt l.length : Nat) := by omega
      clear hx hrk0 hcn
      subst hk0
      go_enter Try.func40, Try.ntmps40
      go_wp2_with (go_at_call 78; (with_reducible refine HF.out.mono ?_); rintro e w3 ⟨rfl, hb3, cbl, cbp⟩; have HB3 := Lib.hid hb3; have cx := HCO.out _ hb3; obtain ⟨c3, c0⟩ := HC.out _ hb3; clear hb3)
      go_ret3
      refine ⟨?_, HB3.out⟩
      rw [HRES.out.1, decide_eq_true HRES.out.2.2, HRES.out.2.1]; rfl
    · have hl0 : l.length = 0 := by omega
      have HRES : Hid (Po.seekP l p = 0 ∧ Po.rk l p = l.length ∧ ¬ Po.rk l p < l.length) := Lib.hid ⟨by unfold Po.seekP; rw [hrk0, List.getD_eq_getElem?_getD, List.getElem?_eq_none (by omega)]; rfl, by omega, by omega⟩
      have hnz : Po.cnt l.length ≤ 0 := by omega
      have hnz2 : Po.cnt l.length = 0 := by omega
      clear hrk0 hcn hl0
      subst hk0
      have HF0 : Hid (Calls Try.prog 78 #[.int .i64 0, .func (.func 79) #[] #[.pointer (some ⟨w.heap.size, 0, none⟩), .pointer (some ⟨w.heap.size + 1, 0, none⟩)]] (W0 w la p)
          fun e w' => e = .returned (.int .i64 0) ∧ Below w.heap.size w w' ∧ w'.cell? ⟨w.heap.size, 0, none⟩ = some (.pointer (some ⟨la, 0, none⟩)) ∧ w'.cell? ⟨w.heap.size + 1, 0, none⟩ = some (.int .i64 p)) := Lib.hid (by
        have h := HF.out
        rw [hnz2] at h
        exact h)
      go_enter Try.func40, Try.ntmps40
      go_wp2_with (go_at_call 78; (with_reducible refine HF0.out.mono ?_); rintro e w3 ⟨rfl, hb3, cbl, cbp⟩; have HB3 := Lib.hid hb3; obtain ⟨c3, c0⟩ := HC.out _ hb3; clear hb3)
      go_region
      all_goals go_wp2
      all_goals go_ret3
      all_goals refine ⟨?_, HB3.out.drew⟩
      all_goals rw [HRES.out.1, decide_eq_false HRES.out.2.2, HRES.out.2.1]
      all_goals rfl
  · have hkp : decide ((k : Int) > 0) = true := by simp; omega
    have hkp2 : decide ((0 : Int) < (k : Int)) = true := by simp; omega
    obtain ⟨k1, hk1⟩ : ∃ k1, k = k1 + 1 := ⟨k - 1, by omega⟩
    have HWK : Hid (RowKit.wrap64 ((k : Int) - 1) = (k1 : Int)) := Lib.hid (wsmall' (by omega) (by omega) (by have := HLEN.out; have := HLE.out; have h := HK.out; unfold Po.cnt at h; omega))
    have HKK : Hid ((k : Int) - 1 = (k1 : Int)) := Lib.hid (by omega)
    have HK1 := Lib.hid hk1
    clear hk1 hk0
    have HWK2 : Hid (RowKit.wrap64 (k1 : Int) = (k1 : Int)) := Lib.hid (wsmall' rfl (by omega) (by have := HLEN.out; have := HLE.out; have h := HK.out; have := HK1.out; unfold Po.cnt at h; omega))
    have HPK : Hid (k1 < Po.cnt l.length) := Lib.hid (by have := HLE.out; have h := HK.out; have := HK1.out; unfold Po.cnt at h ⊢; omega)
    have HM0 : Hid (0 < (part l k1).length) := Lib.hid (by rw [part_len]; have := HPK.out; unfold Po.cnt at this; omega)
    have hwk := HWK.out
    have hkk := HKK.out
    have hwk2 := HWK2.out
    go_enter Try.func40, Try.ntmps40
    go_wp2_with (first
      | (go_at_call 78; (with_reducible refine HF.out.mono ?_); rintro e w3 ⟨rfl, hb3, cbl, cbp⟩; have HB3 := Lib.hid hb3; have CBP := Lib.hid cbp; have CBL := Lib.hid cbl; obtain ⟨c3, c0⟩ := HC.out _ hb3; have HP := Lib.hid (part_calls base la gv _ l k1 w3 (HL.out.later hb3) HPK.out); clear hb3)
      | (go_at_call 80; (with_reducible refine HP.out.mono ?_); rintro e w4 ⟨pv, rfl, hown4, hb4⟩; have HB4 := Lib.hid hb4; obtain ⟨og, oc, rfl, -⟩ := own_some hown4 HM0.out; have HO4 := Lib.hid hown4; have cbp4 := cell_later hb4 CBP.out; have cbl4 := cell_later hb4 CBL.out; clear hown4 hb4 cbl cbp c3 c0))
    have HBW : Hid (Below w.heap.size w w4) := Lib.hid (HB3.out.trans (HB4.out.mono HB3.out.size))
    obtain ⟨c3, c0⟩ := HC.out _ HBW.out
    obtain ⟨m, hm⟩ : ∃ m, (part l k1).length = m := ⟨_, rfl⟩
    have HM := Lib.hid hm
    rw [hm] at HO4
    rw [hm]
    have HML := Lib.hid (part_len l k1)
    clear hm HM0 c3a
    go_loopg [24] m (fun kx s24 wr => ∃ j : Nat, w4 = wr ∧ s24 = .int .i64 j ∧ j ≤ m ∧ m - j ≤ kx ∧ 16 * k1 + j ≤ Po.rk l p)
    case atStart => exact ⟨0, rfl, rfl, Nat.zero_le _, by omega, by have h := HK.out; have := HK1.out; unfold Po.cnt at h; omega⟩
    case round =>
      obtain ⟨j, rfl, rfl, hj, hkx, hrk⟩ := hrel
      by_cases hjm : j < m
      · have hz1 : decide ((j : Int) < (m : Int)) = true := by simp; omega
        have hj0 : (0 : Int) ≤ (j : Int) := by omega
        have hjI : (j : Int) < (m : Int) := by omega
        have hidx : 16 * k1 + j < l.length := by have h1 := HM.out; have h2 := HML.out; omega
        obtain ⟨x, hx⟩ : ∃ x, l.getD (16 * k1 + j) 0 = x := ⟨_, rfl⟩
        have co : w4.cell? ⟨og, j, none⟩ = some (.int .i64 x) := by
          rw [HO4.out.cellAt j (by omega)]
          have h := part_at l k1 j (by rw [HM.out]; exact hjm)
          rw [hx] at h
          unfold nums
          rw [List.getElem?_map, ← h, List.getD_eq_getElem?_getD, List.getElem?_eq_getElem (by rw [HM.out]; exact hjm)]; rfl
        by_cases hpx : p ≤ x
        · have hz2 : decide (p ≤ x) = true := decide_eq_true hpx
          have hrke : Po.rk l p = 16 * k1 + j := by
            rcases Nat.lt_or_ge (16 * k1 + j) (Po.rk l p) with h | h
            · have := Po.rk_lt l p _ h; rw [hx] at this; omega
            · omega
          have HRES : Hid (Po.seekP l p = x ∧ (Po.rk l p : Int) = (k1 : Int) * 16 + (j : Int) ∧ Po.rk l p < l.length) := Lib.hid ⟨by unfold Po.seekP; rw [hrke]; exact hx, by omega, by omega⟩
          have hb := HLEN.out
          have HA1 : Hid (RowKit.wrap64 ((k1 : Int) * 16) = (k1 : Int) * 16) := Lib.hid (by clear hwk hwk2; exact wsmall' rfl (by omega) (by omega))
          have HA2 : Hid (RowKit.wrap64 ((k1 : Int) * 16 + (j : Int)) = (k1 : Int) * 16 + (j : Int)) := Lib.hid (by clear hwk hwk2; exact wsmall' rfl (by omega) (by omega))
          have HR2 : Hid ((Po.rk l p : Int) = RowKit.wrap64 ((k1 : Int) * 16 + (j : Int))) := Lib.hid (HRES.out.2.1.trans HA2.out.symm)
          clear hrke hb hidx hkx hrk hx hjm hj
          have ha1 := HA1.out
          go_wp2
          go_ret3
          refine ⟨?_, HBW.out⟩
          rw [HRES.out.1, HR2.out, decide_eq_true HRES.out.2.2]; rfl
        · have hz2 : decide (p ≤ x) = false := decide_eq_false hpx
          have hnx : 16 * k1 + (j + 1) ≤ Po.rk l p := by
            rcases Nat.lt_or_ge (16 * k1 + j) (Po.rk l p) with h | h
            · omega
            · have he : Po.rk l p = 16 * k1 + j := by omega
              have h2 := Po.rk_ge l p (by omega)
              rw [he, hx] at h2
              exact absurd h2 hpx
          have HNX := Lib.hid hnx
          have HWJ : Hid (RowKit.wrap64 ((j : Int) + 1) = (j : Int) + 1) := Lib.hid (by have := HLEN.out; clear hwk hwk2; exact wsmall' rfl (by omega) (by omega))
          have HJM := Lib.hid hjm
          have HKX := Lib.hid hkx
          clear hnx hx hidx hrk
          have hwj := HWJ.out
          go_wp2
          go_roundg (m - (j + 1))
          case measure => clear hwk hwk2 hwj; omega
          case rel => exact ⟨j + 1, rfl, congrArg (Value.int .i64) (by first | exact HWJ.out.trans (Int.natCast_succ j).symm | exact (Int.natCast_succ j).symm), HJM.out, Nat.le_refl _, HNX.out⟩
      · have hz1 : decide ((j : Int) < (m : Int)) = false := by simp; omega
        obtain rfl : j = m := by omega
        have hml : j = min 16 (l.length - 16 * k1) := by rw [← HM.out]; exact HML.out
        have hkc := HK.out
        have hk11 := HK1.out
        have hle := HLE.out
        unfold Po.cnt at hkc
        by_cases hlast : k < Po.cnt l.length
        · have hz3 : decide ((k : Int) < (Po.cnt l.length : Nat)) = true := by simp; omega
          have hcn : Po.cnt l.length = (l.length + 15) / 16 := rfl
          have hrke : Po.rk l p = 16 * k := by omega
          obtain ⟨sg, sc, e, -⟩ := own_some' HL.out.skips (by omega)
          simp only [Value.slice.injEq] at e
          obtain ⟨rfl, -, rfl⟩ := e
          have hsl : sg < w.heap.size := (HL.out.skips.lt sg rfl).2
          obtain ⟨x, hx⟩ : ∃ x, l.getD (16 * k) 0 = x := ⟨_, rfl⟩
          have co : w4.cell? ⟨sg, k * 2, none⟩ = some (.int .i64 x) := by
            have h := (skv_at l k (Po.cnt l.length) hlast).1
            rw [Nat.mul_comm, ← hx]
            exact ((HBW.out.cell (p := ⟨sg, 2 * k, none⟩) hsl).trans (HL.out.skips.cellAt _ (by omega))).trans h
          have HRES : Hid (Po.seekP l p = x ∧ (Po.rk l p : Int) = (k : Int) * 16 ∧ Po.rk l p < l.length) := Lib.hid ⟨by unfold Po.seekP; rw [hrke]; exact hx, by omega, by omega⟩
          have hb := HLEN.out
          have HA1 : Hid (RowKit.wrap64 ((k : Int) * 16) = (k : Int) * 16) := Lib.hid (by clear hwk hwk2; exact wsmall' rfl (by omega) (by omega))
          have hkI : (k : Int) < (Po.cnt l.length : Nat) := by omega
          have hk0I : (0 : Int) ≤ (k : Int) := by omega
          have HR2 : Hid ((Po.rk l p : Int) = RowKit.wrap64 ((k : Int) * 16)) := Lib.hid (HRES.out.2.1.trans HA1.out.symm)
          clear hrke hb hcn hkc hk11 hle hml hrk hkx hx hlast hj hjm
          go_wp2
          go_ret3
          refine ⟨?_, HBW.out⟩
          rw [HRES.out.1, HR2.out, decide_eq_true HRES.out.2.2]; rfl
        · have hz3 : decide ((k : Int) < (Po.cnt l.length : Nat)) = false := by simp; omega
          have hcn : Po.cnt l.length = (l.length + 15) / 16 := rfl
          have hrke : Po.rk l p = l.length := by omega
          have HRES : Hid (Po.seekP l p = 0 ∧ (Po.rk l p : Int) = (l.length : Int) ∧ ¬ Po.rk l p < l.length) := Lib.hid ⟨by unfold Po.seekP; rw [hrke, List.getD_eq_getElem?_getD, List.getElem?_eq_none (Nat.le_refl _)]; rfl, by omega, by omega⟩
          clear hrke hcn hkc hk11 hle hml hrk hkx hj hjm
          have hnl : Po.cnt l.length ≤ k := by omega
          go_wp2
          go_region
          all_goals go_wp2
          all_goals go_ret3
          all_goals refine ⟨?_, HBW.out.drew⟩
          all_goals rw [HRES.out.1, HRES.out.2.1, decide_eq_false HRES.out.2.2]
          all_goals rfl
set_option maxHeartbeats 2000000 in
set_option maxRecDepth 100000 in
theorem rank_calls (base la : Nat) (gv sv : Value) (l : List Int) (p : Int) (w : World) (hL : IsList base w la gv sv l) :
    Calls Try.prog 61 #[.pointer (some ⟨la, 0, none⟩), .int .i64 p] w fun e w' => e = .returned (.int .i64 (Po.rk l p : Nat)) ∧ Below w.heap.size w w' := by
  have H := Lib.hid (seek_calls base la gv sv l p w hL)
  clear hL
  go_enter Try.func61, Try.ntmps61
  go_wp2_with (go_at_call 40; (with_reducible refine H.out.mono ?_); rintro e w' ⟨rfl, hb⟩; have HB := Lib.hid hb; clear hb)
  go_ret
  exact ⟨rfl, HB.out⟩

end Go.Proofs.Ytmeojlamadcedaa
