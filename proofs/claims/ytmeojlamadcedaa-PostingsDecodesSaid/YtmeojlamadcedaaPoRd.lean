/- corporaref02.Read for the delta code. Printed by readgen.py of this session.
   Conditions: those of the theorems. -/
import Derived.Test.YtmeojlamadcedaaPoRead
namespace Go.Proofs.Ytmeojlamadcedaa
set_option linter.unusedSimpArgs false
set_option linter.unusedVariables false
open Go.RowKit Go.Sort Go.Proofs.YtmeojlamadcedaaW.PrintWords Go.Proofs.YtmeojlamadcedaaW.PrintLast Go.Proofs.YtmeojlamadcedaaW.PrintMore

set_option maxHeartbeats 1000000 in
set_option maxRecDepth 100000 in
theorem rd_err (A : Option Addr) (n c p z : Nat) (w : World)
    (er : Int)
    (HZ : Hid (∀ W, Below w.heap.size w W → Calls Try.prog 100 #[.slice A n c, .int .i64 (p : Nat), .int .i64 63] W fun e w' => e = .returned (.tuple #[.int .i64 (z : Nat), .int .i64 er]) ∧ Below W.heap.size W w'))
    (h0 : er ≠ 0) :
    Calls Try.prog 83 #[.slice A n c, .int .i64 (p : Nat), .agg #[.int .i64 3, .int .u64 0, .int .i64 0]] w fun e w' => e = .returned (.tuple #[.int .u64 0, .int .i64 (p : Nat), .int .i64 er]) ∧ Below w.heap.size w w' := by
  have hd1 : decide (er = 0) = false := by simpa using h0
  have hd2 : (er == 0) = false := by simpa using h0
  have hd3 : (er != 0) = true := by simpa using h0
  clear h0
  go_enter Try.func83, Try.ntmps83
  go_wp2_with (first
    | (go_at_call 100; (with_reducible refine (HZ.out _ ((Below.refl _ w).alloc (Nat.le_refl _) _)).mono ?_); rintro e w1 ⟨rfl, hb⟩; have HB1 := Lib.hid (((Below.refl _ w).alloc (Nat.le_refl _) _).trans (hb.mono (by simp))); have hk := blk_below (blk_new w _) hb; have c3 := (blk_cell hk 0).trans rfl; have HK1 := Lib.hid hk; clear hb hk))
  go_ret3
  exact ⟨rfl, HB1.out⟩

set_option maxHeartbeats 1000000 in
set_option maxRecDepth 100000 in
theorem rd_short (A : Option Addr) (n c p z : Nat) (w : World)
    (HZ : Hid (∀ W, Below w.heap.size w W → Calls Try.prog 100 #[.slice A n c, .int .i64 (p : Nat), .int .i64 63] W fun e w' => e = .returned (.tuple #[.int .i64 (z : Nat), .int .i64 0]) ∧ Below W.heap.size W w'))
    (hn : n < 1000000000) (hp : p ≤ n)
    (hz : z ≤ 63) (h0 : n < p + (2 * z + 1)) :
    Calls Try.prog 83 #[.slice A n c, .int .i64 (p : Nat), .agg #[.int .i64 3, .int .u64 0, .int .i64 0]] w fun e w' => e = .returned (.tuple #[.int .u64 0, .int .i64 (p : Nat), .int .i64 10]) ∧ Below w.heap.size w w' := by
  have H1 : Hid (RowKit.wrap64 ((n : Int) - (p : Int)) = (n : Int) - (p : Int)) := Lib.hid (wsmall' rfl (by omega) (by omega))
  have H2 : Hid (RowKit.wrap64 (2 * (z : Int)) = 2 * (z : Int)) := Lib.hid (wsmall' rfl (by omega) (by omega))
  have H3 : Hid (RowKit.wrap64 (2 * (z : Int) + 1) = 2 * (z : Int) + 1) := Lib.hid (wsmall' rfl (by omega) (by omega))
  have hd1 : decide ((n : Int) - (p : Int) < 2 * (z : Int) + 1) = true := by simp; omega
  clear h0 hz hn hp
  have v1 := H1.out
  have v2 := H2.out
  have v3 := H3.out
  go_enter Try.func83, Try.ntmps83
  go_wp2_with (first
    | (go_at_call 100; (with_reducible refine (HZ.out _ ((Below.refl _ w).alloc (Nat.le_refl _) _)).mono ?_); rintro e w1 ⟨rfl, hb⟩; have HB1 := Lib.hid (((Below.refl _ w).alloc (Nat.le_refl _) _).trans (hb.mono (by simp))); have hk := blk_below (blk_new w _) hb; have c3 := (blk_cell hk 0).trans rfl; have HK1 := Lib.hid hk; clear hb hk))
  go_ret3
  exact ⟨rfl, HB1.out⟩

set_option maxHeartbeats 1000000 in
set_option maxRecDepth 100000 in
theorem rd_big (A : Option Addr) (n c p z : Nat) (w : World)
    (HZ : Hid (∀ W, Below w.heap.size w W → Calls Try.prog 100 #[.slice A n c, .int .i64 (p : Nat), .int .i64 63] W fun e w' => e = .returned (.tuple #[.int .i64 (z : Nat), .int .i64 0]) ∧ Below W.heap.size W w'))
    (hn : n < 1000000000) (hz : p + (2 * z + 1) ≤ n)
    (a1 a2 a3 : Nat) (ha1 : a1 = p + z) (ha2 : a2 = p + 2 * z) (ha3 : a3 = p + 2 * z + 1) (A1 : Option Addr) (n1 c1 v : Nat) (hcut : ∀ W : World, (Instr.slice 98 (.slice A n c) (some (.int .i64 (a1 : Int))) (some (.int .i64 (a3 : Int))) none).run Try.prog W = .ok (.slice A1 n1 c1) W)
    (HN1 : Hid (∀ W, Below w.heap.size w W → Calls Try.prog 99 #[.slice A1 n1 c1] W fun e w' => e = .returned (.int .u64 (v : Nat)) ∧ Below W.heap.size W w'))
    (h0 : 64 < v) :
    Calls Try.prog 83 #[.slice A n c, .int .i64 (p : Nat), .agg #[.int .i64 3, .int .u64 0, .int .i64 0]] w fun e w' => e = .returned (.tuple #[.int .u64 0, .int .i64 (p : Nat), .int .i64 9]) ∧ Below w.heap.size w w' := by
  have H1 : Hid (RowKit.wrap64 ((n : Int) - (p : Int)) = (n : Int) - (p : Int)) := Lib.hid (wsmall' rfl (by omega) (by omega))
  have H2 : Hid (RowKit.wrap64 (2 * (z : Int)) = 2 * (z : Int)) := Lib.hid (wsmall' rfl (by omega) (by omega))
  have H3 : Hid (RowKit.wrap64 (2 * (z : Int) + 1) = 2 * (z : Int) + 1) := Lib.hid (wsmall' rfl (by omega) (by omega))
  have H4 : Hid (RowKit.wrap64 ((p : Int) + (z : Int)) = (a1 : Int)) := Lib.hid (wsmall' (by omega) (by omega) (by omega))
  have H5 : Hid (RowKit.wrap64 ((p : Int) + 2 * (z : Int)) = (a2 : Int)) := Lib.hid (wsmall' (by omega) (by omega) (by omega))
  have H6 : Hid (RowKit.wrap64 ((a2 : Int) + 1) = (a3 : Int)) := Lib.hid (wsmall' (by omega) (by omega) (by omega))
  have hd2 : decide ((n : Int) - (p : Int) < 2 * (z : Int) + 1) = false := by simp; omega
  have hd3 : decide ((64 : Int) < (v : Int)) = true := by simp; omega
  clear h0 hz hn ha1 ha2 ha3
  have v1 := H1.out
  have v2 := H2.out
  have v3 := H3.out
  have v4 := H4.out
  have v5 := H5.out
  have v6 := H6.out
  go_enter Try.func83, Try.ntmps83
  go_wp2_with (first
    | (go_at_call 100; (with_reducible refine (HZ.out _ ((Below.refl _ w).alloc (Nat.le_refl _) _)).mono ?_); rintro e w1 ⟨rfl, hb⟩; have HB1 := Lib.hid (((Below.refl _ w).alloc (Nat.le_refl _) _).trans (hb.mono (by simp))); have hk := blk_below (blk_new w _) hb; have c3 := (blk_cell hk 0).trans rfl; have HK1 := Lib.hid hk; clear hb hk)
    | (go_at_call_of 99 (Value.slice A1 n1 c1); (with_reducible refine (HN1.out _ HB1.out).mono ?_); rintro e w2 ⟨rfl, hb⟩; have HB2 := Lib.hid (HB1.out.trans (hb.mono HB1.out.size)); have hk := blk_below HK1.out hb; have d3 := (blk_cell hk 0).trans rfl; clear hb hk))
  go_ret3
  exact ⟨rfl, HB2.out⟩

set_option maxHeartbeats 1000000 in
set_option maxRecDepth 100000 in
theorem rd_cut (A : Option Addr) (n c p z : Nat) (w : World)
    (HZ : Hid (∀ W, Below w.heap.size w W → Calls Try.prog 100 #[.slice A n c, .int .i64 (p : Nat), .int .i64 63] W fun e w' => e = .returned (.tuple #[.int .i64 (z : Nat), .int .i64 0]) ∧ Below W.heap.size W w'))
    (hn : n < 1000000000) (hz : p + (2 * z + 1) ≤ n)
    (a1 a2 a3 : Nat) (ha1 : a1 = p + z) (ha2 : a2 = p + 2 * z) (ha3 : a3 = p + 2 * z + 1) (A1 : Option Addr) (n1 c1 v : Nat) (hcut : ∀ W : World, (Instr.slice 98 (.slice A n c) (some (.int .i64 (a1 : Int))) (some (.int .i64 (a3 : Int))) none).run Try.prog W = .ok (.slice A1 n1 c1) W)
    (HN1 : Hid (∀ W, Below w.heap.size w W → Calls Try.prog 99 #[.slice A1 n1 c1] W fun e w' => e = .returned (.int .u64 (v : Nat)) ∧ Below W.heap.size W w'))
    (k : Nat) (hv : v = k + 1) (hv64 : v ≤ 64) (h0 : n < p + 2 * z + 1 + k) :
    Calls Try.prog 83 #[.slice A n c, .int .i64 (p : Nat), .agg #[.int .i64 3, .int .u64 0, .int .i64 0]] w fun e w' => e = .returned (.tuple #[.int .u64 0, .int .i64 (p : Nat), .int .i64 10]) ∧ Below w.heap.size w w' := by
  have H1 : Hid (RowKit.wrap64 ((n : Int) - (p : Int)) = (n : Int) - (p : Int)) := Lib.hid (wsmall' rfl (by omega) (by omega))
  have H2 : Hid (RowKit.wrap64 (2 * (z : Int)) = 2 * (z : Int)) := Lib.hid (wsmall' rfl (by omega) (by omega))
  have H3 : Hid (RowKit.wrap64 (2 * (z : Int) + 1) = 2 * (z : Int) + 1) := Lib.hid (wsmall' rfl (by omega) (by omega))
  have H4 : Hid (RowKit.wrap64 ((p : Int) + (z : Int)) = (a1 : Int)) := Lib.hid (wsmall' (by omega) (by omega) (by omega))
  have H5 : Hid (RowKit.wrap64 ((p : Int) + 2 * (z : Int)) = (a2 : Int)) := Lib.hid (wsmall' (by omega) (by omega) (by omega))
  have H6 : Hid (RowKit.wrap64 ((a2 : Int) + 1) = (a3 : Int)) := Lib.hid (wsmall' (by omega) (by omega) (by omega))
  have hd2 : decide ((n : Int) - (p : Int) < 2 * (z : Int) + 1) = false := by simp; omega
  have hd3 : decide ((64 : Int) < (v : Int)) = false := by simp; omega
  have H7 : Hid (RowKit.wrap64 (v : Int) = (v : Int)) := Lib.hid (wsmall' rfl (by omega) (by omega))
  have H8 : Hid (RowKit.wrap64 ((v : Int) - 1) = (k : Int)) := Lib.hid (wsmall' (by omega) (by omega) (by omega))
  have H9 : Hid (RowKit.wrap64 ((n : Int) - (a3 : Int)) = (n : Int) - (a3 : Int)) := Lib.hid (wsmall' rfl (by omega) (by omega))
  have hd4 : decide ((n : Int) - (a3 : Int) < (k : Int)) = true := by simp; omega
  clear h0 hz hn hv hv64 ha1 ha2 ha3
  have v1 := H1.out
  have v2 := H2.out
  have v3 := H3.out
  have v4 := H4.out
  have v5 := H5.out
  have v6 := H6.out
  have v7 := H7.out
  have v8 := H8.out
  have v9 := H9.out
  go_enter Try.func83, Try.ntmps83
  go_wp2_with (first
    | (go_at_call 100; (with_reducible refine (HZ.out _ ((Below.refl _ w).alloc (Nat.le_refl _) _)).mono ?_); rintro e w1 ⟨rfl, hb⟩; have HB1 := Lib.hid (((Below.refl _ w).alloc (Nat.le_refl _) _).trans (hb.mono (by simp))); have hk := blk_below (blk_new w _) hb; have c3 := (blk_cell hk 0).trans rfl; have HK1 := Lib.hid hk; clear hb hk)
    | (go_at_call_of 99 (Value.slice A1 n1 c1); (with_reducible refine (HN1.out _ HB1.out).mono ?_); rintro e w2 ⟨rfl, hb⟩; have HB2 := Lib.hid (HB1.out.trans (hb.mono HB1.out.size)); have hk := blk_below HK1.out hb; have d3 := (blk_cell hk 0).trans rfl; clear hb hk))
  go_ret3
  exact ⟨rfl, HB2.out⟩

set_option maxHeartbeats 1000000 in
set_option maxRecDepth 100000 in
theorem rd_ok (A : Option Addr) (n c p z : Nat) (w : World)
    (HZ : Hid (∀ W, Below w.heap.size w W → Calls Try.prog 100 #[.slice A n c, .int .i64 (p : Nat), .int .i64 63] W fun e w' => e = .returned (.tuple #[.int .i64 (z : Nat), .int .i64 0]) ∧ Below W.heap.size W w'))
    (hn : n < 1000000000) (hz : p + (2 * z + 1) ≤ n)
    (a1 a2 a3 : Nat) (ha1 : a1 = p + z) (ha2 : a2 = p + 2 * z) (ha3 : a3 = p + 2 * z + 1) (A1 : Option Addr) (n1 c1 v : Nat) (hcut : ∀ W : World, (Instr.slice 98 (.slice A n c) (some (.int .i64 (a1 : Int))) (some (.int .i64 (a3 : Int))) none).run Try.prog W = .ok (.slice A1 n1 c1) W)
    (HN1 : Hid (∀ W, Below w.heap.size w W → Calls Try.prog 99 #[.slice A1 n1 c1] W fun e w' => e = .returned (.int .u64 (v : Nat)) ∧ Below W.heap.size W w'))
    (A2 : Option Addr) (n2 c2 k x a4 : Nat) (ha4 : a4 = a3 + k) (hcut2 : ∀ W : World, (Instr.slice 98 (.slice A n c) (some (.int .i64 (a3 : Int))) (some (.int .i64 (a4 : Int))) none).run Try.prog W = .ok (.slice A2 n2 c2) W)
    (HN2 : Hid (∀ W, Below w.heap.size w W → Calls Try.prog 99 #[.slice A2 n2 c2] W fun e w' => e = .returned (.int .u64 (x : Nat)) ∧ Below W.heap.size W w'))
    (hv : v = k + 1) (hv64 : v ≤ 64) (h0 : p + 2 * z + 1 + k ≤ n) (hx : x < 2 ^ k) :
    Calls Try.prog 83 #[.slice A n c, .int .i64 (p : Nat), .agg #[.int .i64 3, .int .u64 0, .int .i64 0]] w fun e w' => e = .returned (.tuple #[.int .u64 ((2 ^ k + x : Nat) : Int), .int .i64 (a4 : Int), .int .i64 0]) ∧ Below w.heap.size w w' := by
  have H1 : Hid (RowKit.wrap64 ((n : Int) - (p : Int)) = (n : Int) - (p : Int)) := Lib.hid (wsmall' rfl (by omega) (by omega))
  have H2 : Hid (RowKit.wrap64 (2 * (z : Int)) = 2 * (z : Int)) := Lib.hid (wsmall' rfl (by omega) (by omega))
  have H3 : Hid (RowKit.wrap64 (2 * (z : Int) + 1) = 2 * (z : Int) + 1) := Lib.hid (wsmall' rfl (by omega) (by omega))
  have H4 : Hid (RowKit.wrap64 ((p : Int) + (z : Int)) = (a1 : Int)) := Lib.hid (wsmall' (by omega) (by omega) (by omega))
  have H5 : Hid (RowKit.wrap64 ((p : Int) + 2 * (z : Int)) = (a2 : Int)) := Lib.hid (wsmall' (by omega) (by omega) (by omega))
  have H6 : Hid (RowKit.wrap64 ((a2 : Int) + 1) = (a3 : Int)) := Lib.hid (wsmall' (by omega) (by omega) (by omega))
  have hd2 : decide ((n : Int) - (p : Int) < 2 * (z : Int) + 1) = false := by simp; omega
  have hd3 : decide ((64 : Int) < (v : Int)) = false := by simp; omega
  have H7 : Hid (RowKit.wrap64 (v : Int) = (v : Int)) := Lib.hid (wsmall' rfl (by omega) (by omega))
  have H8 : Hid (RowKit.wrap64 ((v : Int) - 1) = (k : Int)) := Lib.hid (wsmall' (by omega) (by omega) (by omega))
  have H9 : Hid (RowKit.wrap64 ((n : Int) - (a3 : Int)) = (n : Int) - (a3 : Int)) := Lib.hid (wsmall' rfl (by omega) (by omega))
  have hd4 : decide ((n : Int) - (a3 : Int) < (k : Int)) = false := by simp; omega
  have H10 : Hid (RowKit.wrap64 ((a3 : Int) + (k : Int)) = (a4 : Int)) := Lib.hid (wsmall' (by omega) (by omega) (by omega))
  have H11 : Hid (IntKind.u64.wrap (k : Int) = (k : Int)) := Lib.hid (Po.u64w (by omega))
  have hk63 : k ≤ 63 := by omega
  have hk0 : (0 : Int) ≤ (k : Int) := by omega
  have hk64 : (k : Int) ≤ 64 := by omega
  have hp63 : 2 ^ k ≤ 2 ^ 63 := Nat.pow_le_pow_right (by omega) hk63
  have H12 : Hid (IntKind.u64.wrap ((2 : Int) ^ k) = (2 : Int) ^ k) := Lib.hid (by
    rw [show (2 : Int) ^ k = ((2 ^ k : Nat) : Int) by rw [Int.natCast_pow]; rfl]
    exact Po.u64w (by generalize 2 ^ k = q at *; omega))
  have H13 : Hid (Go.bits .or .u64 ((2 : Int) ^ k) (x : Nat) = ((2 ^ k + x : Nat) : Int)) := Lib.hid (by
    rw [show (2 : Int) ^ k = ((2 ^ k : Nat) : Int) by rw [Int.natCast_pow]; rfl, u64_or_nat _ _ (by generalize 2 ^ k = q at *; omega) (by generalize 2 ^ k = q at *; omega)]
    have h1 := Nat.shiftLeft_add_eq_or_of_lt (a := 1) (b := x) (i := k) hx
    rw [Nat.shiftLeft_eq, Nat.one_mul] at h1
    rw [← h1])
  have hpm : (2 : Int) ^ k % 18446744073709551616 = (2 : Int) ^ k := by
    rw [show (2 : Int) ^ k = ((2 ^ k : Nat) : Int) by rw [Int.natCast_pow]; rfl]
    generalize 2 ^ k = q at *
    omega
  clear h0 hz hn hv hv64 hx hp63 hk63 ha1 ha2 ha3 ha4
  have v1 := H1.out
  have v2 := H2.out
  have v3 := H3.out
  have v4 := H4.out
  have v5 := H5.out
  have v6 := H6.out
  have v7 := H7.out
  have v8 := H8.out
  have v9 := H9.out
  have v10 := H10.out
  have v11 := H11.out
  have v12 := H12.out
  go_enter Try.func83, Try.ntmps83
  go_wp2_with (first
    | (go_at_call 100; (with_reducible refine (HZ.out _ ((Below.refl _ w).alloc (Nat.le_refl _) _)).mono ?_); rintro e w1 ⟨rfl, hb⟩; have HB1 := Lib.hid (((Below.refl _ w).alloc (Nat.le_refl _) _).trans (hb.mono (by simp))); have hk := blk_below (blk_new w _) hb; have c3 := (blk_cell hk 0).trans rfl; have HK1 := Lib.hid hk; clear hb hk)
    | (go_at_call_of 99 (Value.slice A1 n1 c1); (with_reducible refine (HN1.out _ HB1.out).mono ?_); rintro e w2 ⟨rfl, hb⟩; have HB2 := Lib.hid (HB1.out.trans (hb.mono HB1.out.size)); have hk := blk_below HK1.out hb; have d3 := (blk_cell hk 0).trans rfl; clear hb hk)
    | (go_at_call 99; (with_reducible refine (HN2.out _ HB2.out).mono ?_); rintro e w3 ⟨rfl, hb⟩; have HB3 := Lib.hid (HB2.out.trans (hb.mono HB2.out.size)); clear hb))
  go_ret3
  exact ⟨by rw [← H13.out, ← H10.out]; rfl, HB3.out⟩

theorem num_pos (b : List Bool) (p z : Nat) (hz : zF b p = (z, 0)) (hl : p + (2 * z + 1) ≤ b.length) : 1 ≤ Po.num ((b.take (p + 2 * z + 1)).drop (p + z)) := by
  have h := Po.gammaF_pos b p
  have hdt : (b.take (p + 2 * z + 1)).drop (p + z) = (b.drop (p + z)).take (z + 1) := by
    rw [List.drop_take, show p + 2 * z + 1 - (p + z) = z + 1 by omega]
  unfold zF at hz
  split at hz
  · simp at hz
  split at hz
  · simp at hz
  rename_i h1 h2
  simp only [Prod.mk.injEq, and_true] at hz
  unfold Po.gammaF at h
  rw [hz] at h h1 h2
  rw [if_neg h1, if_neg h2, if_neg (by omega)] at h
  rw [hdt]
  exact (h rfl).1
theorem zF_le (b : List Bool) (p : Nat) : (zF b p).1 ≤ 63 := by
  unfold zF
  split
  · decide
  split
  · decide
  · show Po.zc (b.drop p) ≤ 63
    omega

theorem readD_calls {A : Option Addr} {n c : Nat} {b : List Bool} {w : World} (h : Bb w A n c b) (hn : n < 1000000000) (p : Nat) (hp : p ≤ n) :
    Calls Try.prog 83 #[.slice A n c, .int .i64 (p : Nat), .agg #[.int .i64 3, .int .u64 0, .int .i64 0]] w fun e w' => e = .returned (.tuple #[.int .u64 ((Po.deltaF b p).1 : Nat), .int .i64 ((Po.deltaF b p).2.1 : Nat), .int .i64 (Po.deltaF b p).2.2]) ∧ Below w.heap.size w w' := by
  have hB : ∀ W, Below w.heap.size w W → Bb W A n c b := fun W hW => h.below hW
  have hbl := h.len
  have hD := deltaF_z b p
  have hz63 := zF_le b p
  have hnp := num_pos b p
  have HZ : Hid (∀ W, Below w.heap.size w W → Calls Try.prog 100 #[.slice A n c, .int .i64 (p : Nat), .int .i64 63] W fun e w' => e = .returned (.tuple #[.int .i64 ((zF b p).1 : Nat), .int .i64 (zF b p).2]) ∧ Below W.heap.size W w') := Lib.hid (fun W hW => zerosB_calls (hB W hW) hn p hp)
  obtain ⟨Z, hZ⟩ : ∃ Z, zF b p = Z := ⟨_, rfl⟩
  obtain ⟨z, er⟩ := Z
  rw [hZ] at hD HZ hz63
  dsimp only at hD HZ hz63
  by_cases he : er = 0
  case neg =>
    rw [if_pos he] at hD
    rw [hD]
    exact rd_err A n c p z w er HZ he
  subst he
  rw [if_neg (by decide)] at hD
  by_cases hs : b.length < p + (2 * z + 1)
  case pos =>
    rw [if_pos hs] at hD
    rw [hD]
    exact rd_short A n c p z w HZ hn hp hz63 (by omega)
  rw [if_neg hs] at hD
  have hv1 := hnp z hZ (by omega)
  obtain ⟨b1, hb1⟩ : ∃ b1, (b.take (p + 2 * z + 1)).drop (p + z) = b1 := ⟨_, rfl⟩
  rw [hb1] at hD hv1
  obtain ⟨A1, c1, hcut, hC1⟩ := h.mid (p + z) (p + 2 * z + 1) (z + 1) b1 (by omega) (by omega) (by omega) hb1.symm
  have HN1 : Hid (∀ W, Below w.heap.size w W → Calls Try.prog 99 #[.slice A1 (z + 1) c1] W fun e w' => e = .returned (.int .u64 (Po.num b1 : Nat)) ∧ Below W.heap.size W w') := Lib.hid (fun W hW => numB_calls (hC1 W (hB W hW)) (by omega))
  obtain ⟨v, hv⟩ : ∃ v, Po.num b1 = v := ⟨_, rfl⟩
  rw [hv] at hD hv1 HN1
  by_cases h64 : 64 < v
  case pos =>
    rw [if_pos h64] at hD
    rw [hD]
    exact rd_big A n c p z w HZ hn (by omega) _ _ _ rfl rfl rfl A1 (z + 1) c1 v hcut HN1 h64
  rw [if_neg h64] at hD
  obtain ⟨k, hk⟩ : ∃ k, v - 1 = k := ⟨_, rfl⟩
  rw [hk] at hD
  by_cases hs2 : b.length < p + 2 * z + 1 + k
  case pos =>
    rw [if_pos hs2] at hD
    rw [hD]
    exact rd_cut A n c p z w HZ hn (by omega) _ _ _ rfl rfl rfl A1 (z + 1) c1 v hcut HN1 k (by omega) (by omega) (by omega)
  rw [if_neg hs2] at hD
  rw [hD]
  obtain ⟨b2, hb2⟩ : ∃ b2, (b.take (p + 2 * z + 1 + k)).drop (p + 2 * z + 1) = b2 := ⟨_, rfl⟩
  have hl2 : b2.length = k := by rw [← hb2, List.length_drop, List.length_take]; omega
  obtain ⟨A2, c2, hcut2, hC2⟩ := h.mid (p + 2 * z + 1) (p + 2 * z + 1 + k) k b2 (by omega) (by omega) (by omega) hb2.symm
  rw [hb2]
  have hx := Po.num_lt b2
  rw [hl2] at hx
  have HN2 : Hid (∀ W, Below w.heap.size w W → Calls Try.prog 99 #[.slice A2 k c2] W fun e w' => e = .returned (.int .u64 (Po.num b2 : Nat)) ∧ Below W.heap.size W w') := Lib.hid (fun W hW => numB_calls (hC2 W (hB W hW)) (by omega))
  exact rd_ok A n c p z w HZ hn (by omega) _ _ _ rfl rfl rfl A1 (z + 1) c1 v hcut HN1 A2 k c2 k (Po.num b2) _ rfl hcut2 HN2 (by omega) (by omega) (by omega) hx
end Go.Proofs.Ytmeojlamadcedaa
