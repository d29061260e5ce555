/- postings.Decode. Printed by decode.py of this session.
   Conditions: those of the theorems. -/
import Derived.Test.YtmeojlamadcedaaPoBs
import Derived.Test.YtmeojlamadcedaaPoPos
namespace Go.Proofs.Ytmeojlamadcedaa
set_option linter.unusedSimpArgs false
set_option linter.unusedVariables false
open Go.RowKit Go.Sort Go.Proofs.YtmeojlamadcedaaW.PrintWords Go.Proofs.YtmeojlamadcedaaW.PrintLast Go.Proofs.YtmeojlamadcedaaW.PrintMore

set_option maxHeartbeats 1000000 in
set_option maxRecDepth 100000 in
theorem dc_shut (A : Option Addr) (n c : Nat) (w : World)
    (HUN : Hid (Calls Try.prog 31 #[.slice A n c] w fun e w' => ∃ v x, e = .returned (.tuple #[v, .int .i64 x]) ∧ (x = 9 ∨ x = 10) ∧ Below w.heap.size w w')) :
    Calls Try.prog 38 #[.slice A n c] w fun e w' => e = .returned (.tuple #[.pointer none, .int .i64 9]) ∧ Below w.heap.size w w' := by
  go_enter Try.func38, Try.ntmps38
  go_wp2_with (first
    | (go_at_call 31; (with_reducible refine HUN.out.mono ?_); rintro e w1 ⟨v1, er, rfl, her, hb⟩; have HB1 := Lib.hid hb; clear hb; obtain ⟨hd1, hd2, hd3⟩ : decide (er = 0) = false ∧ (er == 0) = false ∧ (er != 0) = true := (by rcases her with rfl | rfl <;> exact ⟨rfl, rfl, rfl⟩); clear her))
  go_ret2
  exact ⟨rfl, HB1.out⟩

set_option maxHeartbeats 1000000 in
set_option maxRecDepth 100000 in
theorem dc_uv1e (A : Option Addr) (n c : Nat) (w : World)
    (pn x1 k1 : Nat) (e1 : Int) (p : List UInt8)
    (HUN : Hid (Calls Try.prog 31 #[.slice A n c] w fun e w' => ∃ A1 c1, e = .returned (.tuple #[.slice A1 pn c1, .int .i64 0]) ∧ Bs w' A1 pn c1 p ∧ Below w.heap.size w w'))
    (HT1 : Hid (∀ W A c, Bs W A pn c p → Calls Try.prog 72 #[.slice A pn c] W fun e w' => e = .returned (.tuple #[.int .u64 (x1 : Nat), .int .i64 (k1 : Nat), .int .i64 e1]) ∧ Below W.heap.size W w'))
    (h0 : e1 ≠ 0) :
    Calls Try.prog 38 #[.slice A n c] w fun e w' => e = .returned (.tuple #[.pointer none, .int .i64 9]) ∧ Below w.heap.size w w' := by
  have hd1 : decide (e1 = 0) = false := by simpa using h0
  have hd2 : (e1 == 0) = false := by simpa using h0
  have hd3 : (e1 != 0) = true := by simpa using h0
  clear h0
  go_enter Try.func38, Try.ntmps38
  go_wp2_with (first
    | (go_at_call 31; (with_reducible refine HUN.out.mono ?_); rintro e w1 ⟨pA, pc, rfl, hbs, hb⟩; have HB1 := Lib.hid hb; have HP1 := Lib.hid hbs; clear hb hbs)
    | (go_at_call 72; (with_reducible refine (HT1.out _ _ _ HP1.out).mono ?_); rintro e w2 ⟨rfl, hb⟩; have HB2 := Lib.hid (HB1.out.trans (hb.mono HB1.out.size)); clear hb))
  go_ret2
  exact ⟨rfl, HB2.out⟩

set_option maxHeartbeats 1000000 in
set_option maxRecDepth 100000 in
theorem dc_uv1x (A : Option Addr) (n c : Nat) (w : World)
    (pn x1 k1 : Nat) (p : List UInt8)
    (HUN : Hid (Calls Try.prog 31 #[.slice A n c] w fun e w' => ∃ A1 c1, e = .returned (.tuple #[.slice A1 pn c1, .int .i64 0]) ∧ Bs w' A1 pn c1 p ∧ Below w.heap.size w w'))
    (HT1 : Hid (∀ W A c, Bs W A pn c p → Calls Try.prog 72 #[.slice A pn c] W fun e w' => e = .returned (.tuple #[.int .u64 (x1 : Nat), .int .i64 (k1 : Nat), .int .i64 0]) ∧ Below W.heap.size W w'))
    (h0 : 4096 < x1) :
    Calls Try.prog 38 #[.slice A n c] w fun e w' => e = .returned (.tuple #[.pointer none, .int .i64 9]) ∧ Below w.heap.size w w' := by
  have hd1 : decide ((4096 : Int) < (x1 : Int)) = true := by simp; omega
  clear h0
  go_enter Try.func38, Try.ntmps38
  go_wp2_with (first
    | (go_at_call 31; (with_reducible refine HUN.out.mono ?_); rintro e w1 ⟨pA, pc, rfl, hbs, hb⟩; have HB1 := Lib.hid hb; have HP1 := Lib.hid hbs; clear hb hbs)
    | (go_at_call 72; (with_reducible refine (HT1.out _ _ _ HP1.out).mono ?_); rintro e w2 ⟨rfl, hb⟩; have HB2 := Lib.hid (HB1.out.trans (hb.mono HB1.out.size)); clear hb))
  go_ret2
  exact ⟨rfl, HB2.out⟩

set_option maxHeartbeats 1000000 in
set_option maxRecDepth 100000 in
theorem dc_uv2e (A : Option Addr) (n c : Nat) (w : World)
    (pn x1 k1 qn x2 k2 : Nat) (p q : List UInt8)
    (HUN : Hid (Calls Try.prog 31 #[.slice A n c] w fun e w' => ∃ A1 c1, e = .returned (.tuple #[.slice A1 pn c1, .int .i64 0]) ∧ Bs w' A1 pn c1 p ∧ Below w.heap.size w w'))
    (HT1 : Hid (∀ W A c, Bs W A pn c p → Calls Try.prog 72 #[.slice A pn c] W fun e w' => e = .returned (.tuple #[.int .u64 (x1 : Nat), .int .i64 (k1 : Nat), .int .i64 0]) ∧ Below W.heap.size W w'))
    (HK1 : Hid (k1 ≤ pn ∧ qn = pn - k1 ∧ q = p.drop k1))
    (e2 : Int)
    (HT2 : Hid (∀ W A c, Bs W A qn c q → Calls Try.prog 72 #[.slice A qn c] W fun e w' => e = .returned (.tuple #[.int .u64 (x2 : Nat), .int .i64 (k2 : Nat), .int .i64 e2]) ∧ Below W.heap.size W w'))
    (hx1 : x1 ≤ 4096) (h0 : e2 ≠ 0) :
    Calls Try.prog 38 #[.slice A n c] w fun e w' => e = .returned (.tuple #[.pointer none, .int .i64 9]) ∧ Below w.heap.size w w' := by
  have hd1 : decide (e2 = 0) = false := by simpa using h0
  have hd2 : (e2 == 0) = false := by simpa using h0
  have hd3 : (e2 != 0) = true := by simpa using h0
  have hm1 : decide ((4096 : Int) < (x1 : Int)) = false := by simp; omega
  clear h0 hx1
  go_enter Try.func38, Try.ntmps38
  go_wp2_with (first
    | (go_at_call 31; (with_reducible refine HUN.out.mono ?_); rintro e w1 ⟨pA, pc, rfl, hbs, hb⟩; have HB1 := Lib.hid hb; have HP1 := Lib.hid hbs; clear hb hbs)
    | (go_at_call_of 72 (Value.slice pA pn pc); (with_reducible refine (HT1.out _ _ _ HP1.out).mono ?_); rintro e w2 ⟨rfl, hb⟩; have HB2 := Lib.hid (HB1.out.trans (hb.mono HB1.out.size)); obtain ⟨qA, qc, hcut, hq⟩ := (HP1.out.below hb).cut k1 qn q HK1.out.1 HK1.out.2.1 HK1.out.2.2; have HQ2 := Lib.hid (hq _ (HP1.out.below hb)); clear hb hq)
    | (go_at_call 72; (with_reducible refine (HT2.out _ _ _ HQ2.out).mono ?_); rintro e w3 ⟨rfl, hb⟩; have HB3 := Lib.hid (HB2.out.trans (hb.mono HB2.out.size)); clear hb))
  go_ret2
  exact ⟨rfl, HB3.out⟩

set_option maxHeartbeats 1000000 in
set_option maxRecDepth 100000 in
theorem dc_uv2x (A : Option Addr) (n c : Nat) (w : World)
    (pn x1 k1 qn x2 k2 : Nat) (p q : List UInt8)
    (HUN : Hid (Calls Try.prog 31 #[.slice A n c] w fun e w' => ∃ A1 c1, e = .returned (.tuple #[.slice A1 pn c1, .int .i64 0]) ∧ Bs w' A1 pn c1 p ∧ Below w.heap.size w w'))
    (HT1 : Hid (∀ W A c, Bs W A pn c p → Calls Try.prog 72 #[.slice A pn c] W fun e w' => e = .returned (.tuple #[.int .u64 (x1 : Nat), .int .i64 (k1 : Nat), .int .i64 0]) ∧ Below W.heap.size W w'))
    (HK1 : Hid (k1 ≤ pn ∧ qn = pn - k1 ∧ q = p.drop k1))
    (HT2 : Hid (∀ W A c, Bs W A qn c q → Calls Try.prog 72 #[.slice A qn c] W fun e w' => e = .returned (.tuple #[.int .u64 (x2 : Nat), .int .i64 (k2 : Nat), .int .i64 0]) ∧ Below W.heap.size W w'))
    (hx1 : x1 ≤ 4096) (hqn : qn < 100000) (h0 : 8 * qn < x2) :
    Calls Try.prog 38 #[.slice A n c] w fun e w' => e = .returned (.tuple #[.pointer none, .int .i64 9]) ∧ Below w.heap.size w w' := by
  have H8 : Hid (RowKit.wrap64 (8 * (qn : Int)) = 8 * (qn : Int)) := Lib.hid (wsmall' rfl (by omega) (by omega))
  have H9 : Hid (IntKind.u64.wrap (8 * (qn : Int)) = 8 * (qn : Int)) := Lib.hid (by simp [IntKind.wrap, IntKind.bits, IntKind.signed]; omega)
  have hm1 : decide ((4096 : Int) < (x1 : Int)) = false := by simp; omega
  have hd8 : decide (8 * (qn : Int) < (x2 : Int)) = true := by simp; omega
  clear h0 hx1 hqn
  have v8 := H8.out
  have v9 := H9.out
  go_enter Try.func38, Try.ntmps38
  go_wp2_with (first
    | (go_at_call 31; (with_reducible refine HUN.out.mono ?_); rintro e w1 ⟨pA, pc, rfl, hbs, hb⟩; have HB1 := Lib.hid hb; have HP1 := Lib.hid hbs; clear hb hbs)
    | (go_at_call_of 72 (Value.slice pA pn pc); (with_reducible refine (HT1.out _ _ _ HP1.out).mono ?_); rintro e w2 ⟨rfl, hb⟩; have HB2 := Lib.hid (HB1.out.trans (hb.mono HB1.out.size)); obtain ⟨qA, qc, hcut, hq⟩ := (HP1.out.below hb).cut k1 qn q HK1.out.1 HK1.out.2.1 HK1.out.2.2; have HQ2 := Lib.hid (hq _ (HP1.out.below hb)); clear hb hq)
    | (go_at_call 72; (with_reducible refine (HT2.out _ _ _ HQ2.out).mono ?_); rintro e w3 ⟨rfl, hb⟩; have HB3 := Lib.hid (HB2.out.trans (hb.mono HB2.out.size)); clear hb))
  go_ret2
  exact ⟨rfl, HB3.out⟩

set_option maxHeartbeats 1000000 in
set_option maxRecDepth 100000 in
theorem dc_pos (A : Option Addr) (n c : Nat) (w : World)
    (pn x1 k1 qn x2 k2 rn : Nat) (p q r : List UInt8)
    (HUN : Hid (Calls Try.prog 31 #[.slice A n c] w fun e w' => ∃ A1 c1, e = .returned (.tuple #[.slice A1 pn c1, .int .i64 0]) ∧ Bs w' A1 pn c1 p ∧ Below w.heap.size w w'))
    (HT1 : Hid (∀ W A c, Bs W A pn c p → Calls Try.prog 72 #[.slice A pn c] W fun e w' => e = .returned (.tuple #[.int .u64 (x1 : Nat), .int .i64 (k1 : Nat), .int .i64 0]) ∧ Below W.heap.size W w'))
    (HK1 : Hid (k1 ≤ pn ∧ qn = pn - k1 ∧ q = p.drop k1))
    (HT2 : Hid (∀ W A c, Bs W A qn c q → Calls Try.prog 72 #[.slice A qn c] W fun e w' => e = .returned (.tuple #[.int .u64 (x2 : Nat), .int .i64 (k2 : Nat), .int .i64 0]) ∧ Below W.heap.size W w'))
    (HK2 : Hid (k2 ≤ qn ∧ rn = qn - k2 ∧ r = q.drop k2))
    (hx1 : x1 ≤ 4096) (hqn : qn < 100000) (hx2 : x2 ≤ 8 * qn)
    (HPS : Hid (∀ W A c, Bs W A rn c r → Calls Try.prog 73 #[.slice A rn c, .int .i64 (x2 : Nat), .int .i64 (x1 : Nat)] W fun e w' => e = .returned (.tuple #[.slice none 0 0, .bool false]) ∧ Below W.heap.size W w')) :
    Calls Try.prog 38 #[.slice A n c] w fun e w' => e = .returned (.tuple #[.pointer none, .int .i64 9]) ∧ Below w.heap.size w w' := by
  have H8 : Hid (RowKit.wrap64 (8 * (qn : Int)) = 8 * (qn : Int)) := Lib.hid (wsmall' rfl (by omega) (by omega))
  have H9 : Hid (IntKind.u64.wrap (8 * (qn : Int)) = 8 * (qn : Int)) := Lib.hid (by simp [IntKind.wrap, IntKind.bits, IntKind.signed]; omega)
  have H10 : Hid (RowKit.wrap64 (x1 : Int) = (x1 : Int)) := Lib.hid (wsmall' rfl (by omega) (by omega))
  have H11 : Hid (RowKit.wrap64 (x2 : Int) = (x2 : Int)) := Lib.hid (wsmall' rfl (by omega) (by omega))
  have hd8 : decide (8 * (qn : Int) < (x2 : Int)) = false := by simp; omega
  have hm1 : decide ((4096 : Int) < (x1 : Int)) = false := by simp; omega
  clear hx1 hx2 hqn
  have v8 := H8.out
  have v9 := H9.out
  have v10 := H10.out
  have v11 := H11.out
  go_enter Try.func38, Try.ntmps38
  go_wp2_with (first
    | (go_at_call 31; (with_reducible refine HUN.out.mono ?_); rintro e w1 ⟨pA, pc, rfl, hbs, hb⟩; have HB1 := Lib.hid hb; have HP1 := Lib.hid hbs; clear hb hbs)
    | (go_at_call_of 72 (Value.slice pA pn pc); (with_reducible refine (HT1.out _ _ _ HP1.out).mono ?_); rintro e w2 ⟨rfl, hb⟩; have HB2 := Lib.hid (HB1.out.trans (hb.mono HB1.out.size)); obtain ⟨qA, qc, hcut, hq⟩ := (HP1.out.below hb).cut k1 qn q HK1.out.1 HK1.out.2.1 HK1.out.2.2; have HQ2 := Lib.hid (hq _ (HP1.out.below hb)); clear hb hq)
    | (go_at_call 72; (with_reducible refine (HT2.out _ _ _ HQ2.out).mono ?_); rintro e w3 ⟨rfl, hb⟩; have HB3 := Lib.hid (HB2.out.trans (hb.mono HB2.out.size)); obtain ⟨rA, rc, hcut2, hr⟩ := (HQ2.out.below hb).cut k2 rn r HK2.out.1 HK2.out.2.1 HK2.out.2.2; have HR3 := Lib.hid (hr _ (HQ2.out.below hb)); clear hb hr)
    | (go_at_call 73; (with_reducible refine (HPS.out _ _ _ HR3.out).mono ?_); rintro e w4 ⟨rfl, hb⟩; have HB4 := Lib.hid (HB3.out.trans (hb.mono HB3.out.size)); clear hb))
  go_ret2
  exact ⟨rfl, HB4.out⟩

set_option maxHeartbeats 1000000 in
set_option maxRecDepth 100000 in
theorem dc_build (A : Option Addr) (n c : Nat) (w : World)
    (pn x1 k1 qn x2 k2 rn : Nat) (p q r : List UInt8)
    (HUN : Hid (Calls Try.prog 31 #[.slice A n c] w fun e w' => ∃ A1 c1, e = .returned (.tuple #[.slice A1 pn c1, .int .i64 0]) ∧ Bs w' A1 pn c1 p ∧ Below w.heap.size w w'))
    (HT1 : Hid (∀ W A c, Bs W A pn c p → Calls Try.prog 72 #[.slice A pn c] W fun e w' => e = .returned (.tuple #[.int .u64 (x1 : Nat), .int .i64 (k1 : Nat), .int .i64 0]) ∧ Below W.heap.size W w'))
    (HK1 : Hid (k1 ≤ pn ∧ qn = pn - k1 ∧ q = p.drop k1))
    (HT2 : Hid (∀ W A c, Bs W A qn c q → Calls Try.prog 72 #[.slice A qn c] W fun e w' => e = .returned (.tuple #[.int .u64 (x2 : Nat), .int .i64 (k2 : Nat), .int .i64 0]) ∧ Below W.heap.size W w'))
    (HK2 : Hid (k2 ≤ qn ∧ rn = qn - k2 ∧ r = q.drop k2))
    (hx1 : x1 ≤ 4096) (hqn : qn < 100000) (hx2 : x2 ≤ 8 * qn)
    (l : List Int) (er : Int)
    (HPS : Hid (∀ W A c, Bs W A rn c r → Calls Try.prog 73 #[.slice A rn c, .int .i64 (x2 : Nat), .int .i64 (x1 : Nat)] W fun e w' => ∃ lA lc, e = .returned (.tuple #[.slice lA l.length lc, .bool true]) ∧ Kd.C (Kd.int .i64) w' lA l.length l ∧ Below W.heap.size W w'))
    (HBU : Hid (∀ W A c, Kd.C (Kd.int .i64) W A l.length l → Calls Try.prog 62 #[.slice A l.length c] W fun e w' => e = .returned (.tuple #[.pointer none, .int .i64 er]) ∧ Below W.heap.size W w'))
    (h0 : er ≠ 0) :
    Calls Try.prog 38 #[.slice A n c] w fun e w' => e = .returned (.tuple #[.pointer none, .int .i64 9]) ∧ Below w.heap.size w w' := by
  have H8 : Hid (RowKit.wrap64 (8 * (qn : Int)) = 8 * (qn : Int)) := Lib.hid (wsmall' rfl (by omega) (by omega))
  have H9 : Hid (IntKind.u64.wrap (8 * (qn : Int)) = 8 * (qn : Int)) := Lib.hid (by simp [IntKind.wrap, IntKind.bits, IntKind.signed]; omega)
  have H10 : Hid (RowKit.wrap64 (x1 : Int) = (x1 : Int)) := Lib.hid (wsmall' rfl (by omega) (by omega))
  have H11 : Hid (RowKit.wrap64 (x2 : Int) = (x2 : Int)) := Lib.hid (wsmall' rfl (by omega) (by omega))
  have hd8 : decide (8 * (qn : Int) < (x2 : Int)) = false := by simp; omega
  have hm1 : decide ((4096 : Int) < (x1 : Int)) = false := by simp; omega
  clear hx1 hx2 hqn
  have v8 := H8.out
  have v9 := H9.out
  have v10 := H10.out
  have v11 := H11.out
  have hd1 : decide (er = 0) = false := by simpa using h0
  have hd2 : (er == 0) = false := by simpa using h0
  have hd3 : (er != 0) = true := by simpa using h0
  clear h0
  go_enter Try.func38, Try.ntmps38
  go_wp2_with (first
    | (go_at_call 31; (with_reducible refine HUN.out.mono ?_); rintro e w1 ⟨pA, pc, rfl, hbs, hb⟩; have HB1 := Lib.hid hb; have HP1 := Lib.hid hbs; clear hb hbs)
    | (go_at_call_of 72 (Value.slice pA pn pc); (with_reducible refine (HT1.out _ _ _ HP1.out).mono ?_); rintro e w2 ⟨rfl, hb⟩; have HB2 := Lib.hid (HB1.out.trans (hb.mono HB1.out.size)); obtain ⟨qA, qc, hcut, hq⟩ := (HP1.out.below hb).cut k1 qn q HK1.out.1 HK1.out.2.1 HK1.out.2.2; have HQ2 := Lib.hid (hq _ (HP1.out.below hb)); clear hb hq)
    | (go_at_call 72; (with_reducible refine (HT2.out _ _ _ HQ2.out).mono ?_); rintro e w3 ⟨rfl, hb⟩; have HB3 := Lib.hid (HB2.out.trans (hb.mono HB2.out.size)); obtain ⟨rA, rc, hcut2, hr⟩ := (HQ2.out.below hb).cut k2 rn r HK2.out.1 HK2.out.2.1 HK2.out.2.2; have HR3 := Lib.hid (hr _ (HQ2.out.below hb)); clear hb hr)
    | (go_at_call 73; (with_reducible refine (HPS.out _ _ _ HR3.out).mono ?_); rintro e w4 ⟨lA, lc, rfl, hC, hb⟩; have HB4 := Lib.hid (HB3.out.trans (hb.mono HB3.out.size)); have HC4 := Lib.hid hC; clear hb hC)
    | (go_at_call 62; (with_reducible refine (HBU.out _ _ _ HC4.out).mono ?_); rintro e w5 ⟨rfl, hb⟩; have HB5 := Lib.hid (HB4.out.trans (hb.mono HB4.out.size)); clear hb))
  go_ret2
  exact ⟨rfl, HB5.out⟩

set_option maxHeartbeats 1000000 in
set_option maxRecDepth 100000 in
theorem dc_enc (A : Option Addr) (n c : Nat) (w : World)
    (pn x1 k1 qn x2 k2 rn : Nat) (p q r : List UInt8)
    (HUN : Hid (Calls Try.prog 31 #[.slice A n c] w fun e w' => ∃ A1 c1, e = .returned (.tuple #[.slice A1 pn c1, .int .i64 0]) ∧ Bs w' A1 pn c1 p ∧ Below w.heap.size w w'))
    (HT1 : Hid (∀ W A c, Bs W A pn c p → Calls Try.prog 72 #[.slice A pn c] W fun e w' => e = .returned (.tuple #[.int .u64 (x1 : Nat), .int .i64 (k1 : Nat), .int .i64 0]) ∧ Below W.heap.size W w'))
    (HK1 : Hid (k1 ≤ pn ∧ qn = pn - k1 ∧ q = p.drop k1))
    (HT2 : Hid (∀ W A c, Bs W A qn c q → Calls Try.prog 72 #[.slice A qn c] W fun e w' => e = .returned (.tuple #[.int .u64 (x2 : Nat), .int .i64 (k2 : Nat), .int .i64 0]) ∧ Below W.heap.size W w'))
    (HK2 : Hid (k2 ≤ qn ∧ rn = qn - k2 ∧ r = q.drop k2))
    (hx1 : x1 ≤ 4096) (hqn : qn < 100000) (hx2 : x2 ≤ 8 * qn)
    (l : List Int) (en : Nat) (d : Bool) (hd : d = false)
    (HPS : Hid (∀ W A c, Bs W A rn c r → Calls Try.prog 73 #[.slice A rn c, .int .i64 (x2 : Nat), .int .i64 (x1 : Nat)] W fun e w' => ∃ lA lc, e = .returned (.tuple #[.slice lA l.length lc, .bool true]) ∧ Kd.C (Kd.int .i64) w' lA l.length l ∧ Below W.heap.size W w'))
    (HBU : Hid (∀ W A c, Kd.C (Kd.int .i64) W A l.length l → Calls Try.prog 62 #[.slice A l.length c] W fun e w' => ∃ la gv sv, e = .returned (.tuple #[.pointer (some ⟨la, 0, none⟩), .int .i64 0]) ∧ IsList W.heap.size w' la gv sv l ∧ Below W.heap.size W w'))
    (HEN : Hid (∀ B la gv sv W, IsList B W la gv sv l → Calls Try.prog 37 #[.pointer (some ⟨la, 0, none⟩)] W fun e w' => ∃ A c, e = .returned (.slice A en c) ∧ Bs w' A en c (Po.Enc l) ∧ Below W.heap.size W w'))
    (HEQ : Hid (∀ W A1 c1, Bs W A1 en c1 (Po.Enc l) → Below w.heap.size w W → Calls Try.prog 74 #[.slice A1 en c1, .slice A n c] W fun e w' => e = .returned (.bool d) ∧ Below W.heap.size W w')) :
    Calls Try.prog 38 #[.slice A n c] w fun e w' => e = .returned (.tuple #[.pointer none, .int .i64 9]) ∧ Below w.heap.size w w' := by
  have H8 : Hid (RowKit.wrap64 (8 * (qn : Int)) = 8 * (qn : Int)) := Lib.hid (wsmall' rfl (by omega) (by omega))
  have H9 : Hid (IntKind.u64.wrap (8 * (qn : Int)) = 8 * (qn : Int)) := Lib.hid (by simp [IntKind.wrap, IntKind.bits, IntKind.signed]; omega)
  have H10 : Hid (RowKit.wrap64 (x1 : Int) = (x1 : Int)) := Lib.hid (wsmall' rfl (by omega) (by omega))
  have H11 : Hid (RowKit.wrap64 (x2 : Int) = (x2 : Int)) := Lib.hid (wsmall' rfl (by omega) (by omega))
  have hd8 : decide (8 * (qn : Int) < (x2 : Int)) = false := by simp; omega
  have hm1 : decide ((4096 : Int) < (x1 : Int)) = false := by simp; omega
  clear hx1 hx2 hqn
  have v8 := H8.out
  have v9 := H9.out
  have v10 := H10.out
  have v11 := H11.out
  subst hd
  go_enter Try.func38, Try.ntmps38
  go_wp2_with (first
    | (go_at_call 31; (with_reducible refine HUN.out.mono ?_); rintro e w1 ⟨pA, pc, rfl, hbs, hb⟩; have HB1 := Lib.hid hb; have HP1 := Lib.hid hbs; clear hb hbs)
    | (go_at_call_of 72 (Value.slice pA pn pc); (with_reducible refine (HT1.out _ _ _ HP1.out).mono ?_); rintro e w2 ⟨rfl, hb⟩; have HB2 := Lib.hid (HB1.out.trans (hb.mono HB1.out.size)); obtain ⟨qA, qc, hcut, hq⟩ := (HP1.out.below hb).cut k1 qn q HK1.out.1 HK1.out.2.1 HK1.out.2.2; have HQ2 := Lib.hid (hq _ (HP1.out.below hb)); clear hb hq)
    | (go_at_call 72; (with_reducible refine (HT2.out _ _ _ HQ2.out).mono ?_); rintro e w3 ⟨rfl, hb⟩; have HB3 := Lib.hid (HB2.out.trans (hb.mono HB2.out.size)); obtain ⟨rA, rc, hcut2, hr⟩ := (HQ2.out.below hb).cut k2 rn r HK2.out.1 HK2.out.2.1 HK2.out.2.2; have HR3 := Lib.hid (hr _ (HQ2.out.below hb)); clear hb hr)
    | (go_at_call 73; (with_reducible refine (HPS.out _ _ _ HR3.out).mono ?_); rintro e w4 ⟨lA, lc, rfl, hC, hb⟩; have HB4 := Lib.hid (HB3.out.trans (hb.mono HB3.out.size)); have HC4 := Lib.hid hC; clear hb hC)
    | (go_at_call 62; (with_reducible refine (HBU.out _ _ _ HC4.out).mono ?_); rintro e w5 ⟨la, gv, sv, rfl, hL, hb⟩; have HB5 := Lib.hid (HB4.out.trans (hb.mono HB4.out.size)); have HL5 := Lib.hid (hL.lower HB4.out.size); clear hb hL)
    | (go_at_call 37; (with_reducible refine (HEN.out _ _ _ _ _ HL5.out).mono ?_); rintro e w6 ⟨eA, ec, rfl, hE, hb⟩; have HB6 := Lib.hid (HB5.out.trans (hb.mono HB5.out.size)); have HE6 := Lib.hid hE; have HL6 := Lib.hid (HL5.out.later hb); clear hb hE)
    | (go_at_call 74; (with_reducible refine (HEQ.out _ _ _ HE6.out HB6.out).mono ?_); rintro e w7 ⟨rfl, hb⟩; have HB7 := Lib.hid (HB6.out.trans (hb.mono HB6.out.size)); have HL7 := Lib.hid (HL6.out.later hb); clear hb))
  go_ret2
  exact ⟨rfl, HB7.out⟩

set_option maxHeartbeats 1000000 in
set_option maxRecDepth 100000 in
theorem dc_ok (A : Option Addr) (n c : Nat) (w : World)
    (pn x1 k1 qn x2 k2 rn : Nat) (p q r : List UInt8)
    (HUN : Hid (Calls Try.prog 31 #[.slice A n c] w fun e w' => ∃ A1 c1, e = .returned (.tuple #[.slice A1 pn c1, .int .i64 0]) ∧ Bs w' A1 pn c1 p ∧ Below w.heap.size w w'))
    (HT1 : Hid (∀ W A c, Bs W A pn c p → Calls Try.prog 72 #[.slice A pn c] W fun e w' => e = .returned (.tuple #[.int .u64 (x1 : Nat), .int .i64 (k1 : Nat), .int .i64 0]) ∧ Below W.heap.size W w'))
    (HK1 : Hid (k1 ≤ pn ∧ qn = pn - k1 ∧ q = p.drop k1))
    (HT2 : Hid (∀ W A c, Bs W A qn c q → Calls Try.prog 72 #[.slice A qn c] W fun e w' => e = .returned (.tuple #[.int .u64 (x2 : Nat), .int .i64 (k2 : Nat), .int .i64 0]) ∧ Below W.heap.size W w'))
    (HK2 : Hid (k2 ≤ qn ∧ rn = qn - k2 ∧ r = q.drop k2))
    (hx1 : x1 ≤ 4096) (hqn : qn < 100000) (hx2 : x2 ≤ 8 * qn)
    (l : List Int) (en : Nat) (d : Bool) (hd : d = true)
    (HPS : Hid (∀ W A c, Bs W A rn c r → Calls Try.prog 73 #[.slice A rn c, .int .i64 (x2 : Nat), .int .i64 (x1 : Nat)] W fun e w' => ∃ lA lc, e = .returned (.tuple #[.slice lA l.length lc, .bool true]) ∧ Kd.C (Kd.int .i64) w' lA l.length l ∧ Below W.heap.size W w'))
    (HBU : Hid (∀ W A c, Kd.C (Kd.int .i64) W A l.length l → Calls Try.prog 62 #[.slice A l.length c] W fun e w' => ∃ la gv sv, e = .returned (.tuple #[.pointer (some ⟨la, 0, none⟩), .int .i64 0]) ∧ IsList W.heap.size w' la gv sv l ∧ Below W.heap.size W w'))
    (HEN : Hid (∀ B la gv sv W, IsList B W la gv sv l → Calls Try.prog 37 #[.pointer (some ⟨la, 0, none⟩)] W fun e w' => ∃ A c, e = .returned (.slice A en c) ∧ Bs w' A en c (Po.Enc l) ∧ Below W.heap.size W w'))
    (HEQ : Hid (∀ W A1 c1, Bs W A1 en c1 (Po.Enc l) → Below w.heap.size w W → Calls Try.prog 74 #[.slice A1 en c1, .slice A n c] W fun e w' => e = .returned (.bool d) ∧ Below W.heap.size W w')) :
    Calls Try.prog 38 #[.slice A n c] w fun e w' => ∃ la gv sv, e = .returned (.tuple #[.pointer (some ⟨la, 0, none⟩), .int .i64 0]) ∧ IsList w.heap.size w' la gv sv l ∧ Below w.heap.size w w' := by
  have H8 : Hid (RowKit.wrap64 (8 * (qn : Int)) = 8 * (qn : Int)) := Lib.hid (wsmall' rfl (by omega) (by omega))
  have H9 : Hid (IntKind.u64.wrap (8 * (qn : Int)) = 8 * (qn : Int)) := Lib.hid (by simp [IntKind.wrap, IntKind.bits, IntKind.signed]; omega)
  have H10 : Hid (RowKit.wrap64 (x1 : Int) = (x1 : Int)) := Lib.hid (wsmall' rfl (by omega) (by omega))
  have H11 : Hid (RowKit.wrap64 (x2 : Int) = (x2 : Int)) := Lib.hid (wsmall' rfl (by omega) (by omega))
  have hd8 : decide (8 * (qn : Int) < (x2 : Int)) = false := by simp; omega
  have hm1 : decide ((4096 : Int) < (x1 : Int)) = false := by simp; omega
  clear hx1 hx2 hqn
  have v8 := H8.out
  have v9 := H9.out
  have v10 := H10.out
  have v11 := H11.out
  subst hd
  go_enter Try.func38, Try.ntmps38
  go_wp2_with (first
    | (go_at_call 31; (with_reducible refine HUN.out.mono ?_); rintro e w1 ⟨pA, pc, rfl, hbs, hb⟩; have HB1 := Lib.hid hb; have HP1 := Lib.hid hbs; clear hb hbs)
    | (go_at_call_of 72 (Value.slice pA pn pc); (with_reducible refine (HT1.out _ _ _ HP1.out).mono ?_); rintro e w2 ⟨rfl, hb⟩; have HB2 := Lib.hid (HB1.out.trans (hb.mono HB1.out.size)); obtain ⟨qA, qc, hcut, hq⟩ := (HP1.out.below hb).cut k1 qn q HK1.out.1 HK1.out.2.1 HK1.out.2.2; have HQ2 := Lib.hid (hq _ (HP1.out.below hb)); clear hb hq)
    | (go_at_call 72; (with_reducible refine (HT2.out _ _ _ HQ2.out).mono ?_); rintro e w3 ⟨rfl, hb⟩; have HB3 := Lib.hid (HB2.out.trans (hb.mono HB2.out.size)); obtain ⟨rA, rc, hcut2, hr⟩ := (HQ2.out.below hb).cut k2 rn r HK2.out.1 HK2.out.2.1 HK2.out.2.2; have HR3 := Lib.hid (hr _ (HQ2.out.below hb)); clear hb hr)
    | (go_at_call 73; (with_reducible refine (HPS.out _ _ _ HR3.out).mono ?_); rintro e w4 ⟨lA, lc, rfl, hC, hb⟩; have HB4 := Lib.hid (HB3.out.trans (hb.mono HB3.out.size)); have HC4 := Lib.hid hC; clear hb hC)
    | (go_at_call 62; (with_reducible refine (HBU.out _ _ _ HC4.out).mono ?_); rintro e w5 ⟨la, gv, sv, rfl, hL, hb⟩; have HB5 := Lib.hid (HB4.out.trans (hb.mono HB4.out.size)); have HL5 := Lib.hid (hL.lower HB4.out.size); clear hb hL)
    | (go_at_call 37; (with_reducible refine (HEN.out _ _ _ _ _ HL5.out).mono ?_); rintro e w6 ⟨eA, ec, rfl, hE, hb⟩; have HB6 := Lib.hid (HB5.out.trans (hb.mono HB5.out.size)); have HE6 := Lib.hid hE; have HL6 := Lib.hid (HL5.out.later hb); clear hb hE)
    | (go_at_call 74; (with_reducible refine (HEQ.out _ _ _ HE6.out HB6.out).mono ?_); rintro e w7 ⟨rfl, hb⟩; have HB7 := Lib.hid (HB6.out.trans (hb.mono HB6.out.size)); have HL7 := Lib.hid (HL6.out.later hb); clear hb))
  go_ret2
  exact ⟨la, gv, sv, rfl, HL7.out, HB7.out⟩

end Go.Proofs.Ytmeojlamadcedaa
