/- corporalaw17.PostingsSeeks.
   Conditions: those of the theorems. -/
import Derived.Test.YtmeojlamadcedaaPoSk
namespace Go.Proofs.Ytmeojlamadcedaa
set_option linter.unusedSimpArgs false
open Go.RowKit Go.Sort Go.Proofs.YtmeojlamadcedaaW.PrintWords Go.Proofs.YtmeojlamadcedaaW.PrintLast Go.Proofs.YtmeojlamadcedaaW.PrintMore

theorem seeks_over (A0 : Option Addr) (c0 : Nat) (l : List Int) (p : Int) (w : World) (h : 300 < l.length) :
    Calls Try.prog 21 #[.slice A0 l.length c0, .int .i64 p] w fun e w' => e = .returned (.bool true) ∧ Below w.heap.size w w' := by
  have hz : decide ((300 : Int) < (l.length : Int)) = true := by simp; omega
  go_enter Try.func21, Try.ntmps21
  go_wp2
  go_ret
  exact ⟨rfl, Below.refl _ _⟩

set_option maxHeartbeats 4000000 in
set_option maxRecDepth 100000 in
theorem seeks_in (A0 : Option Addr) (c0 : Nat) (l : List Int) (p : Int) (w : World) (hr : Kd.C (Kd.int .i64) w A0 l.length l) (hc0 : l.length ≤ c0) (hlen : l.length ≤ 300) :
    Calls Try.prog 21 #[.slice A0 l.length c0, .int .i64 p] w fun e w' => e = .returned (.bool true) ∧ Below w.heap.size w w' := by
  have hz : decide ((300 : Int) < (l.length : Int)) = false := by simp; omega
  have HBU := Lib.hid (built_calls A0 c0 l w hr hc0 (by omega))
  obtain ⟨k, hk⟩ := seek_ev l p (by omega)
  have HSK : Hid (∀ W, Below w.heap.size w W → Calls Try.prog 60 #[.slice A0 l.length c0, .int .i64 p] W fun e w' => e = .returned (.tuple #[.int .i64 (Po.seekP l p), .int .i64 (Po.rk l p : Nat), .bool (decide (Po.rk l p < l.length))]) ∧ Below W.heap.size W w') := Lib.hid (fun W hW => by
    refine (R.corporaref17_Seek.calls k A0 c0 l p _ _ _ W (Kd.C_below hr hW) hc0 hk).mono fun e w' hq => ?_
    obtain ⟨he, ⟨q, rfl⟩⟩ := hq
    exact ⟨he, below_drewN (Below.refl _ _) q⟩)
  clear hr hk hc0 hlen
  by_cases h0 : Po.errF l = 0
  · have HB2 : Hid (Calls Try.prog 35 #[.slice A0 l.length c0] w fun e w' => ∃ a gv sv, e = .returned (.tuple #[.pointer (some ⟨a, 0, none⟩), .bool true]) ∧ IsList w.heap.size w' a gv sv l ∧ Below w.heap.size w w') := Lib.hid (by
      refine HBU.out.mono fun e w' hq => ?_
      obtain ⟨h1, h2⟩ := hq
      rcases h1 with ⟨hne, _⟩ | ⟨_, a, gv, sv, he, hl⟩
      · exact absurd h0 hne
      · exact ⟨a, gv, sv, he, hl, h2⟩)
    obtain ⟨x, hx⟩ : ∃ x, Po.seekP l p = x := ⟨_, rfl⟩
    obtain ⟨rk, hrk⟩ : ∃ rk, Po.rk l p = rk := ⟨_, rfl⟩
    obtain ⟨b, hb⟩ : ∃ b, decide (rk < l.length) = b := ⟨_, rfl⟩
    have HX : Hid (∀ base la gv sv W, IsList base W la gv sv l → Calls Try.prog 40 #[.pointer (some ⟨la, 0, none⟩), .int .i64 p] W fun e w' => e = .returned (.tuple #[.int .i64 x, .int .i64 (rk : Nat), .bool b]) ∧ Below W.heap.size W w') := Lib.hid (fun base la gv sv W hl => by
      have h := seek_calls base la gv sv l p W hl
      unfold SeekPost at h
      rw [hx, hrk, hb] at h
      exact h)
    have HRK : Hid (∀ base la gv sv W, IsList base W la gv sv l → Calls Try.prog 61 #[.pointer (some ⟨la, 0, none⟩), .int .i64 p] W fun e w' => e = .returned (.int .i64 (rk : Nat)) ∧ Below W.heap.size W w') := Lib.hid (fun base la gv sv W hl => by
      have h := rank_calls base la gv sv l p W hl
      rw [hrk] at h
      exact h)
    rw [hx, hrk, hb] at HSK
    clear HBU h0 hx hrk hb
    go_enter Try.func21, Try.ntmps21
    cases b
    all_goals
      go_wp2_with (first
        | (go_at_call 35; (with_reducible refine HB2.out.mono ?_); rintro e w1 ⟨la, gv, sv, rfl, hl, hb⟩; have HL := Lib.hid hl; have HB1 := Lib.hid hb; clear hl hb)
        | (go_at_call 40; (with_reducible refine (HX.out _ _ _ _ _ HL.out).mono ?_); rintro e w2 ⟨rfl, hb⟩; have HBB := Lib.hid hb; have HB3 := Lib.hid (HB1.out.trans (hb.mono HB1.out.size)); have HL2 := Lib.hid (HL.out.later hb); clear hb)
        | (go_at_call 60; (with_reducible refine (HSK.out _ HB3.out).mono ?_); rintro e w3 ⟨rfl, hb⟩; have HB4 := Lib.hid (HB3.out.trans (hb.mono HB3.out.size)); have HL3 := Lib.hid (HL2.out.later hb); clear hb)
        | (go_at_call 61; (with_reducible refine (HRK.out _ _ _ _ _ HL3.out).mono ?_); rintro e w4 ⟨rfl, hb⟩; have HB5 := Lib.hid (HB4.out.trans (hb.mono HB4.out.size)); clear hb)
        | (go_at_call 36; (with_reducible refine (awake17_true _).mono ?_); rintro e w5 ⟨rfl, hb⟩; have HB6 := Lib.hid (HB5.out.trans (hb.mono HB5.out.size)); clear hb))
      go_ret
      exact ⟨rfl, HB6.out⟩
  · have HB2 : Hid (Calls Try.prog 35 #[.slice A0 l.length c0] w fun e w' => e = .returned (.tuple #[.pointer none, .bool true]) ∧ Below w.heap.size w w') := Lib.hid (by
      refine HBU.out.mono fun e w' hq => ?_
      obtain ⟨h1, h2⟩ := hq
      rcases h1 with ⟨_, he⟩ | ⟨hz, _⟩
      · exact ⟨he, h2⟩
      · exact absurd hz h0)
    clear HBU h0 HSK
    go_enter Try.func21, Try.ntmps21
    go_wp2_with (first
      | (go_at_call 35; (with_reducible refine HB2.out.mono ?_); rintro e w1 ⟨rfl, hb⟩; have HB1 := Lib.hid hb; clear hb)
      | (go_at_call 36; (with_reducible refine (awake17_true _).mono ?_); rintro e w5 ⟨rfl, hb⟩; have HB6 := Lib.hid (HB1.out.trans (hb.mono HB1.out.size)); clear hb))
    go_ret
    exact ⟨rfl, HB6.out⟩
end Go.Proofs.Ytmeojlamadcedaa
namespace Go.Proofs.Ytmeojlamadcedaa.Given
open Go.RowKit Go.Sort Go.Proofs.YtmeojlamadcedaaW.PrintWords Go.Proofs.YtmeojlamadcedaaW.PrintLast
def corporalaw17_PostingsSeeks.f (_l0 : List Int) (_a1 : Int) : Option Bool := some true
theorem corporalaw17_PostingsSeeks.calls (A0 : Option Addr) (c0 : Nat) (l0 : List Int) (a1 : Int) (r : Bool) (w : World) (hr0 : Kd.C (Kd.int .i64) w A0 l0.length l0) (hc0 : l0.length ≤ c0) (h : corporalaw17_PostingsSeeks.f l0 a1 = some r) :
    Calls Try.prog 21 #[.slice A0 l0.length c0, .int .i64 a1] w fun e w' => e = .returned (.bool r) ∧ Below w.heap.size w w' := by
  obtain rfl := Option.some.inj h
  by_cases hl : l0.length ≤ 300
  · exact seeks_in A0 c0 l0 a1 w hr0 hc0 hl
  · exact seeks_over A0 c0 l0 a1 w (by omega)
end Go.Proofs.Ytmeojlamadcedaa.Given
