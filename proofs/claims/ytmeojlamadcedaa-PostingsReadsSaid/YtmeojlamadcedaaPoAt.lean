/- postings.List: At.
   Conditions: those of the theorems. -/
import Derived.Test.YtmeojlamadcedaaPoA
namespace Go.Proofs.Ytmeojlamadcedaa
set_option linter.unusedSimpArgs false
open Go.RowKit Go.Sort Go.Proofs.YtmeojlamadcedaaW.PrintWords Go.Proofs.YtmeojlamadcedaaW.PrintLast

theorem at_out (base la : Nat) (gv sv : Value) (l : List Int) (i : Int) (w : World) (hL : IsList base w la gv sv l) (hi : i < 0 ∨ (l.length : Int) ≤ i) :
    Calls Try.prog 64 #[.pointer (some ⟨la, 0, none⟩), .int .i64 i] w fun e w' => e = .returned (.tuple #[.int .i64 0, .bool false]) ∧ Below w.heap.size w w' := by
  have c0 : w.cell? ⟨la, 0, none⟩ = some (.int .i64 (l.length : Nat)) := (blk_cell hL.blk 0).trans rfl
  clear hL
  by_cases h0 : i < 0
  · have hd : decide (i < 0) = true := decide_eq_true h0
    go_enter Try.func64, Try.ntmps64
    go_wp2
    go_ret2
    exact ⟨rfl, Below.refl _ _⟩
  · have hd : decide (i < 0) = false := decide_eq_false h0
    have hd2 : decide ((l.length : Int) ≤ i) = true := by simp; omega
    clear hi h0
    go_enter Try.func64, Try.ntmps64
    go_wp2
    go_ret2
    exact ⟨rfl, Below.refl _ _⟩

set_option maxHeartbeats 2000000 in
set_option maxRecDepth 100000 in
theorem at_calls (base la : Nat) (gv sv : Value) (l : List Int) (i : Nat) (w : World) (hL : IsList base w la gv sv l) (hi : i < l.length) :
    Calls Try.prog 64 #[.pointer (some ⟨la, 0, none⟩), .int .i64 (i : Nat)] w fun e w' => e = .returned (.tuple #[.int .i64 (l.getD i 0), .bool true]) ∧ Below w.heap.size w w' := by
  have c0 : w.cell? ⟨la, 0, none⟩ = some (.int .i64 (l.length : Nat)) := (blk_cell hL.blk 0).trans rfl
  have hlen := hL.len
  have hd : decide ((i : Int) < 0) = false := by simp
  have hd2 : decide ((l.length : Int) ≤ (i : Int)) = false := by simp; omega
  have hd3 : decide (l.length ≤ i) = false := by simp; omega
  obtain ⟨k, hk⟩ : ∃ k, i / 16 = k := ⟨_, rfl⟩
  obtain ⟨r, hr⟩ : ∃ r, i % 16 = r := ⟨_, rfl⟩
  have hkc : k < Po.cnt l.length := by unfold Po.cnt; omega
  have HP := Lib.hid (part_calls base la gv sv l k w hL hkc)
  have hpl : r < (part l k).length := by rw [part_len]; omega
  have hpa := part_at l k r hpl
  rw [show 16 * k + r = i by omega] at hpa
  obtain ⟨x, hx⟩ : ∃ x, l.getD i 0 = x := ⟨_, rfl⟩
  rw [hx] at hpa ⊢
  obtain ⟨m, hm⟩ : ∃ m, (part l k).length = m := ⟨_, rfl⟩
  have HCELL : Hid ((nums .i64 (part l k))[r]? = some (.int .i64 x)) := Lib.hid (by
    unfold nums
    rw [List.getElem?_map, ← hpa, List.getD_eq_getElem?_getD, List.getElem?_eq_getElem hpl]; rfl)
  rw [hm] at HP hpl
  have h1 : Int.tdiv (i : Int) 16 = (k : Int) := by rw [Int.tdiv_eq_ediv_of_nonneg (by omega)]; omega
  have h2 : (i : Int) / 16 = (k : Int) := by omega
  have h3 : Int.tmod (i : Int) 16 = (r : Int) := by rw [Int.tmod_eq_emod_of_nonneg (by omega)]; omega
  have h4 : (i : Int) % 16 = (r : Int) := by omega
  have hr0 : (0 : Int) ≤ (r : Int) := by omega
  have hrm : (r : Int) < (m : Int) := by omega
  have HRM : Hid (r < m * 1) := Lib.hid (by omega)
  have HM0 : Hid (0 < m) := Lib.hid (by omega)
  have HW : Hid (RowKit.wrap64 (k : Int) = (k : Int)) := Lib.hid (wsmall' rfl (by omega) (by omega))
  clear hL hkc hpl hpa hx hm hk hr hi hlen
  have hw := HW.out
  go_enter Try.func64, Try.ntmps64
  go_wp2_with (go_at_call 80; (with_reducible refine HP.out.mono ?_); rintro e w1 ⟨v, rfl, ho, hb⟩; obtain ⟨og, oc, rfl, -⟩ := own_some ho HM0.out; have co := (ho.cellAt r HRM.out).trans HCELL.out; have HB := Lib.hid hb; clear ho hb)
  go_ret2
  exact ⟨rfl, HB.out⟩
end Go.Proofs.Ytmeojlamadcedaa
