/- corporalaw17.PostingsReads.
   Conditions: those of the theorems. -/
import Derived.Test.YtmeojlamadcedaaPoSk
import Derived.Test.YtmeojlamadcedaaPoAt
namespace Go.Proofs.Ytmeojlamadcedaa
set_option linter.unusedSimpArgs false
open Go.RowKit Go.Sort Go.Proofs.YtmeojlamadcedaaW.PrintWords Go.Proofs.YtmeojlamadcedaaW.PrintLast Go.Proofs.YtmeojlamadcedaaW.PrintMore

theorem reads_over (A0 : Option Addr) (c0 : Nat) (l : List Int) (p : Int) (w : World) (h : 200 < l.length) :
    Calls Try.prog 23 #[.slice A0 l.length c0, .int .i64 p] w fun e w' => e = .returned (.bool true) ∧ Below w.heap.size w w' := by
  have hz : decide ((200 : Int) < (l.length : Int)) = true := by simp; omega
  go_enter Try.func23, Try.ntmps23
  go_wp2
  go_ret
  exact ⟨rfl, Below.refl _ _⟩

set_option maxHeartbeats 4000000 in
set_option maxRecDepth 100000 in
theorem reads_nil (A0 : Option Addr) (c0 : Nat) (l : List Int) (p : Int) (w : World) (hr : Kd.C (Kd.int .i64) w A0 l.length l) (hc0 : l.length ≤ c0) (hlen : l.length ≤ 200) (h0 : Po.errF l ≠ 0) :
    Calls Try.prog 23 #[.slice A0 l.length c0, .int .i64 p] w fun e w' => e = .returned (.bool true) ∧ Below w.heap.size w w' := by
  have hz : decide ((200 : Int) < (l.length : Int)) = false := by simp; omega
  have HB2 : Hid (Calls Try.prog 35 #[.slice A0 l.length c0] w fun e w' => e = .returned (.tuple #[.pointer none, .bool true]) ∧ Below w.heap.size w w') := Lib.hid (by
    refine (built_calls A0 c0 l w hr hc0 (by omega)).mono fun e w' hq => ?_
    obtain ⟨h1, h2⟩ := hq
    rcases h1 with ⟨_, he⟩ | ⟨hz, _⟩
    · exact ⟨he, h2⟩
    · exact absurd hz h0)
  clear h0 hr hc0 hlen
  go_enter Try.func23, Try.ntmps23
  go_wp2_with (first
    | (go_at_call 35; (with_reducible refine HB2.out.mono ?_); rintro e w1 ⟨rfl, hb⟩; have HB1 := Lib.hid hb; clear hb)
    | (go_at_call 36; (with_reducible refine (awake17_true _).mono ?_); rintro e w5 ⟨rfl, hb⟩; have HB6 := Lib.hid (HB1.out.trans (hb.mono HB1.out.size)); clear hb))
  go_ret
  exact ⟨rfl, HB6.out⟩

set_option maxHeartbeats 4000000 in
set_option maxRecDepth 100000 in
theorem reads_in (A0 : Option Addr) (c0 : Nat) (l : List Int) (p : Int) (w : World) (hr : Kd.C (Kd.int .i64) w A0 l.length l) (hc0 : l.length ≤ c0) (hlen : l.length ≤ 200) (h0 : Po.errF l = 0) :
    Calls Try.prog 23 #[.slice A0 l.length c0, .int .i64 p] w fun e w' => e = .returned (.bool true) ∧ Below w.heap.size w w' := by
  have hz : decide ((200 : Int) < (l.length : Int)) = false := by simp; omega
  have HR := Lib.hid (Kd.reads_of_C (enc := Value.int .i64) (d := (0 : Int)) (h1 := fun _ => rfl) hr)
  have HB2 : Hid (Calls Try.prog 35 #[.slice A0 l.length c0] w fun e w' => ∃ a gv sv, e = .returned (.tuple #[.pointer (some ⟨a, 0, none⟩), .bool true]) ∧ IsList w.heap.size w' a gv sv l ∧ Below w.heap.size w w') := Lib.hid (by
    refine (built_calls A0 c0 l w hr hc0 (by omega)).mono fun e w' hq => ?_
    obtain ⟨h1, h2⟩ := hq
    rcases h1 with ⟨hne, _⟩ | ⟨_, a, gv, sv, he, hl⟩
    · exact absurd h0 hne
    · exact ⟨a, gv, sv, he, hl, h2⟩)
  have HLEN := Lib.hid hlen
  clear h0 hr hc0 hlen
  go_enter Try.func23, Try.ntmps23
  go_wp2_with (go_at_call 35; (with_reducible refine HB2.out.mono ?_); rintro e w1 ⟨la, gv, sv, rfl, hl, hb⟩; have HL := Lib.hid hl; have HB1 := Lib.hid hb; clear hl hb)
  go_loopg [7] 300 (fun kx s7 wr => ∃ (j : Nat) (W : World), W = wr ∧ s7 = .int .i64 ((j : Int) - 1) ∧ j ≤ l.length + 2 ∧ 299 - j ≤ kx ∧ IsList w.heap.size wr la gv sv l ∧ Below w.heap.size w wr)
  case atStart => exact ⟨0, _, rfl, rfl, by omega, by omega, HL.out, HB1.out⟩
  case round =>
    obtain ⟨j, W, rfl, rfl, hj, hk, hl, hb⟩ := hrel
    have HLW := Lib.hid hl
    have HBW := Lib.hid hb
    have HW2 : Hid (RowKit.wrap64 ((j : Int) - 1 + 1) = ((j + 1 : Nat) : Int) - 1) := Lib.hid (wsmall' (by omega) (by have := HLEN.out; omega) (by have := HLEN.out; omega))
    have HKX := Lib.hid hk
    have HJ := Lib.hid hj
    by_cases hfin : j = l.length + 2
    · have hz1 : decide ((j : Int) - 1 ≤ (l.length : Int)) = false := by simp; omega
      clear hl hb hj hk hfin
      by_cases hin : 0 ≤ p ∧ p < (l.length : Int)
      · obtain ⟨i, hi⟩ : ∃ i : Nat, p = (i : Int) := ⟨p.toNat, by omega⟩
        subst hi
        have hil : i < l.length := by omega
        obtain ⟨ad, had, hcell⟩ := HR.out.2.2 (by omega)
        subst had
        obtain ⟨x, hx⟩ : ∃ x, l.getD i 0 = x := ⟨_, rfl⟩
        have HAT : Hid (Calls Try.prog 64 #[.pointer (some ⟨la, 0, none⟩), .int .i64 (i : Nat)] W fun e w' => e = .returned (.tuple #[.int .i64 x, .bool true]) ∧ Below W.heap.size W w') := Lib.hid (by
          have h := at_calls _ la gv sv l i W HLW.out hil
          rw [hx] at h; exact h)
        have HCL : Hid (w.cell? (ad.add i) = some (.int .i64 x)) := Lib.hid (by rw [← hx]; exact hcell i hil)
        have hd1 : decide ((0 : Int) ≤ (i : Int)) = true := by simp
        have hd2 : decide ((i : Int) < (l.length : Int)) = true := by simp; omega
        have hp0 : (0 : Int) ≤ (i : Int) := by omega
        have hpl : (i : Int) < (l.length : Int) := by omega
        clear hin hx hcell HW2
        go_wp2_with (first
          | (go_at_call 64; (with_reducible refine HAT.out.mono ?_); rintro e w3 ⟨rfl, hb3⟩; have hbb := HBW.out.trans (hb3.mono HBW.out.size); have cx := cell_later hbb HCL.out; have HB3 := Lib.hid hbb; clear hb3 hbb)
          | (go_at_call 36; (with_reducible refine (awake17_true _).mono ?_); rintro e w5 ⟨rfl, hb⟩; have HB6 := Lib.hid (HB3.out.trans (hb.mono HB3.out.size)); clear hb))
        go_ret
        exact ⟨rfl, HB6.out⟩
      · have HAT := Lib.hid (at_out _ la gv sv l p W HLW.out (by omega))
        by_cases hp0 : 0 ≤ p
        · have hd1 : decide ((0 : Int) ≤ p) = true := decide_eq_true hp0
          have hd2 : decide (p < (l.length : Int)) = false := by simp; omega
          clear hin HW2
          go_wp2_with (first
            | (go_at_call 64; (with_reducible refine HAT.out.mono ?_); rintro e w3 ⟨rfl, hb3⟩; have HB3 := Lib.hid (HBW.out.trans (hb3.mono HBW.out.size)); clear hb3)
            | (go_at_call 36; (with_reducible refine (awake17_true _).mono ?_); rintro e w5 ⟨rfl, hb⟩; have HB6 := Lib.hid (HB3.out.trans (hb.mono HB3.out.size)); clear hb))
          go_ret
          exact ⟨rfl, HB6.out⟩
        · have hd1 : decide ((0 : Int) ≤ p) = false := decide_eq_false hp0
          clear hin HW2
          go_wp2_with (first
            | (go_at_call 64; (with_reducible refine HAT.out.mono ?_); rintro e w3 ⟨rfl, hb3⟩; have HB3 := Lib.hid (HBW.out.trans (hb3.mono HBW.out.size)); clear hb3)
            | (go_at_call 36; (with_reducible refine (awake17_true _).mono ?_); rintro e w5 ⟨rfl, hb⟩; have HB6 := Lib.hid (HB3.out.trans (hb.mono HB3.out.size)); clear hb))
          go_ret
          exact ⟨rfl, HB6.out⟩
    · have hz1 : decide ((j : Int) - 1 ≤ (l.length : Int)) = true := by simp; omega
      obtain ⟨kk, hkk⟩ : ∃ kk : Int, (j : Int) - 1 = kk := ⟨_, rfl⟩
      have HKK := Lib.hid hkk
      rw [hkk] at hz1 HW2 ⊢
      have HNF : Hid (j + 1 ≤ l.length + 2) := Lib.hid (by omega)
      clear hl hb hj hk
      by_cases hin : 0 ≤ kk ∧ kk < (l.length : Int)
      · obtain ⟨i, hi⟩ : ∃ i : Nat, kk = (i : Int) := ⟨kk.toNat, by omega⟩
        have hil : i < l.length := by omega
        obtain ⟨ad, had, hcell⟩ := HR.out.2.2 (by omega)
        subst had
        obtain ⟨x, hx⟩ : ∃ x, l.getD i 0 = x := ⟨_, rfl⟩
        have HAT : Hid (Calls Try.prog 64 #[.pointer (some ⟨la, 0, none⟩), .int .i64 (i : Nat)] W fun e w' => e = .returned (.tuple #[.int .i64 x, .bool true]) ∧ Below W.heap.size W w' ∧ w'.cell? (ad.add i) = some (.int .i64 x)) := Lib.hid (by
          have h := at_calls _ la gv sv l i W HLW.out hil
          rw [hx] at h
          refine h.mono fun e w' hq => ⟨hq.1, hq.2, cell_later (HBW.out.trans (hq.2.mono HBW.out.size)) ?_⟩
          rw [← hx]; exact hcell i hil)
        have hd1 : decide ((0 : Int) ≤ (i : Int)) = true := by simp
        have hd2 : decide ((i : Int) < (l.length : Int)) = true := by simp; omega
        have hp0 : (0 : Int) ≤ (i : Int) := by omega
        have hpl : (i : Int) < (l.length : Int) := by omega
        rw [hi] at hz1 HW2 ⊢
        clear hin hx hcell hfin hkk hi
        have x2 := HW2.out
        go_wp2_with (go_at_call 64; (with_reducible refine HAT.out.mono ?_); rintro e w3 ⟨rfl, hb3, cx⟩; have HB3 := Lib.hid (HBW.out.trans (hb3.mono HBW.out.size)); have HL3 := Lib.hid (HLW.out.later hb3); clear hb3)
        go_roundg (299 - (j + 1))
        case measure => clear x2; have := HKX.out; have := HNF.out; have := HLEN.out; omega
        case rel => exact ⟨j + 1, _, rfl, by first | rfl | exact congrArg (Value.int .i64) HW2.out, HNF.out, Nat.le_refl _, HL3.out, HB3.out⟩
      · have HAT := Lib.hid (at_out _ la gv sv l kk W HLW.out (by omega))
        by_cases hp0 : 0 ≤ kk
        · have hd1 : decide ((0 : Int) ≤ kk) = true := decide_eq_true hp0
          have hd2 : decide (kk < (l.length : Int)) = false := by simp; omega
          clear hin hfin hkk
          have x2 := HW2.out
          go_wp2_with (go_at_call 64; (with_reducible refine HAT.out.mono ?_); rintro e w3 ⟨rfl, hb3⟩; have HB3 := Lib.hid (HBW.out.trans (hb3.mono HBW.out.size)); have HL3 := Lib.hid (HLW.out.later hb3); clear hb3)
          go_roundg (299 - (j + 1))
          case measure => clear x2; have := HKX.out; have := HNF.out; have := HLEN.out; omega
          case rel => exact ⟨j + 1, _, rfl, by first | rfl | exact congrArg (Value.int .i64) HW2.out, HNF.out, Nat.le_refl _, HL3.out, HB3.out⟩
        · have hd1 : decide ((0 : Int) ≤ kk) = false := decide_eq_false hp0
          clear hin hfin hkk
          have x2 := HW2.out
          go_wp2_with (go_at_call 64; (with_reducible refine HAT.out.mono ?_); rintro e w3 ⟨rfl, hb3⟩; have HB3 := Lib.hid (HBW.out.trans (hb3.mono HBW.out.size)); have HL3 := Lib.hid (HLW.out.later hb3); clear hb3)
          go_roundg (299 - (j + 1))
          case measure => clear x2; have := HKX.out; have := HNF.out; have := HLEN.out; omega
          case rel => exact ⟨j + 1, _, rfl, by first | rfl | exact congrArg (Value.int .i64) HW2.out, HNF.out, Nat.le_refl _, HL3.out, HB3.out⟩
end Go.Proofs.Ytmeojlamadcedaa
namespace Go.Proofs.Ytmeojlamadcedaa.Given
open Go.RowKit Go.Sort Go.Proofs.YtmeojlamadcedaaW.PrintWords Go.Proofs.YtmeojlamadcedaaW.PrintLast
def corporalaw17_PostingsReads.f (_l0 : List Int) (_a1 : Int) : Option Bool := some true
theorem corporalaw17_PostingsReads.calls (A0 : Option Addr) (c0 : Nat) (l0 : List Int) (a1 : Int) (r : Bool) (w : World) (hr0 : Kd.C (Kd.int .i64) w A0 l0.length l0) (hc0 : l0.length ≤ c0) (h : corporalaw17_PostingsReads.f l0 a1 = some r) :
    Calls Try.prog 23 #[.slice A0 l0.length c0, .int .i64 a1] w fun e w' => e = .returned (.bool r) ∧ Below w.heap.size w w' := by
  obtain rfl := Option.some.inj h
  by_cases hl : l0.length ≤ 200
  · by_cases he : Po.errF l0 = 0
    · exact reads_in A0 c0 l0 a1 w hr0 hc0 hl he
    · exact reads_nil A0 c0 l0 a1 w hr0 hc0 hl he
  · exact reads_over A0 c0 l0 a1 w (by omega)
end Go.Proofs.Ytmeojlamadcedaa.Given
