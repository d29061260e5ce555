/- corporalaw17.PostingsBuilds.
   Conditions: those of the theorems. -/
import Derived.Test.YtmeojlamadcedaaPoAll
namespace Go.Proofs.Ytmeojlamadcedaa
set_option linter.unusedSimpArgs false
open Go.RowKit Go.Sort Go.Proofs.YtmeojlamadcedaaW.PrintWords Go.Proofs.YtmeojlamadcedaaW.PrintLast

theorem builds_over (A0 : Option Addr) (c0 : Nat) (l : List Int) (w : World) (h : 300 < l.length) :
    Calls Try.prog 25 #[.slice A0 l.length c0] w fun e w' => e = .returned (.bool true) ∧ Below w.heap.size w w' := by
  have hz : decide ((300 : Int) < (l.length : Int)) = true := by simp; omega
  go_enter Try.func25, Try.ntmps25
  go_wp2
  go_ret
  exact ⟨rfl, Below.refl _ _⟩

set_option maxHeartbeats 4000000 in
set_option maxRecDepth 100000 in
theorem builds_in (A0 : Option Addr) (c0 : Nat) (l : List Int) (w : World) (hr : Kd.C (Kd.int .i64) w A0 l.length l) (hc0 : l.length ≤ c0) (hlen : l.length ≤ 300) :
    Calls Try.prog 25 #[.slice A0 l.length c0] w fun e w' => e = .returned (.bool true) ∧ Below w.heap.size w w' := by
  have hz : decide ((300 : Int) < (l.length : Int)) = false := by simp; omega
  have HBU := Lib.hid (built_calls A0 c0 l w hr hc0 (by omega))
  have HRD : Hid (∀ W, Below w.heap.size w W → ReadsInt W .i64 A0 l.length l) := Lib.hid (fun W hW => Kd.reads_of_C (enc := Value.int .i64) (d := (0 : Int)) (h1 := fun _ => rfl) (Kd.C_below hr hW))
  have HLEN := Lib.hid hlen
  clear hr hc0 hlen
  by_cases h0 : Po.errF l = 0
  · have HB2 : Hid (Calls Try.prog 35 #[.slice A0 l.length c0] w fun e w' => ∃ a gv sv, e = .returned (.tuple #[.pointer (some ⟨a, 0, none⟩), .bool true]) ∧ IsList w.heap.size w' a gv sv l ∧ Below w.heap.size w w') := Lib.hid (by
      refine HBU.out.mono fun e w' hq => ?_
      obtain ⟨h1, h2⟩ := hq
      rcases h1 with ⟨hne, _⟩ | ⟨_, a, gv, sv, he, hl⟩
      · exact absurd h0 hne
      · exact ⟨a, gv, sv, he, hl, h2⟩)
    clear HBU h0
    go_enter Try.func25, Try.ntmps25
    go_wp2_with (first
      | (go_at_call 35; (with_reducible refine HB2.out.mono ?_); rintro e w1 ⟨la, gv, sv, rfl, hl, hb⟩; have HL := Lib.hid hl; have HB1 := Lib.hid hb
          ; have HN := Lib.hid (len_calls la l.length w1 ((blk_cell hl.blk 0).trans rfl)); have HAL := Lib.hid (all_calls _ la gv sv l w1 hl); clear hl hb)
      | (go_at_call 63; (with_reducible refine HN.out.mono ?_); rintro e w2 ⟨rfl, hw2⟩; obtain rfl := hw2.symm)
      | (go_at_call 42; (with_reducible refine HAL.out.mono ?_); rintro e w3 ⟨v3, rfl, ho, hb⟩
          ; obtain ⟨vA, vC, rfl⟩ := own_slice ho
          ; have HBB := Lib.hid (HB1.out.trans (hb.mono HB1.out.size))
          ; have HSA := Lib.hid (same_calls vA A0 vC c0 l w3 (own_readsI ho) (HRD.out _ HBB.out) (by have := HLEN.out; omega)); clear ho hb)
      | (go_at_call 41; (with_reducible refine HSA.out.mono ?_); rintro e w4 ⟨rfl, q, hw4⟩; have HB4 : Hid (Below w.heap.size w w4) := Lib.hid (by rw [hw4]; exact below_drewN HBB.out q); clear hw4)
      | (go_at_call 36; (with_reducible refine (awake17_true _).mono ?_); rintro e w5 ⟨rfl, hb⟩; have HB6 := Lib.hid (HB4.out.trans (hb.mono HB4.out.size)); clear hb))
    go_ret
    exact ⟨rfl, HB6.out⟩
  · have HB2 : Hid (Calls Try.prog 35 #[.slice A0 l.length c0] w fun e w' => e = .returned (.tuple #[.pointer none, .bool true]) ∧ Below w.heap.size w w') := Lib.hid (by
      refine HBU.out.mono fun e w' hq => ?_
      obtain ⟨h1, h2⟩ := hq
      rcases h1 with ⟨_, he⟩ | ⟨hz, _⟩
      · exact ⟨he, h2⟩
      · exact absurd hz h0)
    clear HBU h0
    go_enter Try.func25, Try.ntmps25
    go_wp2_with (first
      | (go_at_call 35; (with_reducible refine HB2.out.mono ?_); rintro e w1 ⟨rfl, hb⟩; have HB1 := Lib.hid hb; clear hb)
      | (go_at_call 36; (with_reducible refine (awake17_true _).mono ?_); rintro e w5 ⟨rfl, hb⟩; have HB6 := Lib.hid (HB1.out.trans (hb.mono HB1.out.size)); clear hb))
    go_ret
    exact ⟨rfl, HB6.out⟩
end Go.Proofs.Ytmeojlamadcedaa
namespace Go.Proofs.Ytmeojlamadcedaa.Given
open Go.RowKit Go.Sort Go.Proofs.YtmeojlamadcedaaW.PrintWords Go.Proofs.YtmeojlamadcedaaW.PrintLast
def corporalaw17_PostingsBuilds.f (_l0 : List Int) : Option Bool := some true
theorem corporalaw17_PostingsBuilds.calls (A0 : Option Addr) (c0 : Nat) (l0 : List Int) (r : Bool) (w : World) (hr0 : Kd.C (Kd.int .i64) w A0 l0.length l0) (hc0 : l0.length ≤ c0) (h : corporalaw17_PostingsBuilds.f l0 = some r) :
    Calls Try.prog 25 #[.slice A0 l0.length c0] w fun e w' => e = .returned (.bool r) ∧ Below w.heap.size w w' := by
  obtain rfl := Option.some.inj h
  by_cases hl : l0.length ≤ 300
  · exact builds_in A0 c0 l0 w hr0 hc0 hl
  · exact builds_over A0 c0 l0 w (by omega)
end Go.Proofs.Ytmeojlamadcedaa.Given
