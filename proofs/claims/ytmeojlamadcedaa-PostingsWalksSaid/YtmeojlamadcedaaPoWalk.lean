/- corporalaw17.PostingsWalks.
   Conditions: those of the theorems. -/
import Derived.Test.YtmeojlamadcedaaPoAt
namespace Go.Proofs.Ytmeojlamadcedaa
set_option linter.unusedSimpArgs false
open Go.RowKit Go.Sort Go.Proofs.YtmeojlamadcedaaW.PrintWords Go.Proofs.YtmeojlamadcedaaW.PrintLast

/-- Where the walk is at index i. -/
def nextAt (l : List Int) : Nat → Int
  | 0 => 0
  | i + 1 => l.getD i 0 + 1
theorem rk_next {l : List Int} (h : Po.Valid l) (i : Nat) (hi : i ≤ l.length) : Po.rk l (nextAt l i) = i := by
  refine Po.rk_sorted h _ i hi (fun h0 => ?_) (fun h1 => ?_)
  · cases i with
    | zero => omega
    | succ j => show l.getD j 0 < l.getD j 0 + 1; omega
  · cases i with
    | zero => exact (h 0 h1).1
    | succ j => have := Po.valid_step h j h1; show l.getD j 0 + 1 ≤ _; omega
theorem rk_here {l : List Int} (h : Po.Valid l) (i : Nat) (hi : i < l.length) : Po.rk l (l.getD i 0) = i := by
  refine Po.rk_sorted h _ i (by omega) (fun h0 => ?_) (fun _ => Int.le_refl _)
  have := Po.valid_lt h (i - 1) i (by omega) hi
  exact this

set_option maxHeartbeats 4000000 in
set_option maxRecDepth 100000 in
theorem walks_in (A0 : Option Addr) (c0 : Nat) (l : List Int) (w : World) (hr : Kd.C (Kd.int .i64) w A0 l.length l) (hlen : l.length ≤ 200) (h0 : Po.errF l = 0) :
    Calls Try.prog 24 #[.slice A0 l.length c0] w fun e w' => e = .returned (.bool true) ∧ Below w.heap.size w w' := by
  have hz : decide ((200 : Int) < (l.length : Int)) = false := by simp; omega
  have HB2 : Hid (Calls Try.prog 62 #[.slice A0 l.length c0] w fun e w' => ∃ a gv sv, e = .returned (.tuple #[.pointer (some ⟨a, 0, none⟩), .int .i64 0]) ∧ IsList w.heap.size w' a gv sv l ∧ Below w.heap.size w w') := Lib.hid (by
    refine (build_calls A0 c0 l w hr (by omega)).mono fun e w' hq => ?_
    obtain ⟨h1, h2⟩ := hq
    rcases h1 with ⟨hne, _⟩ | ⟨_, a, gv, sv, he, hl⟩
    · exact absurd h0 hne
    · exact ⟨a, gv, sv, he, hl, h2⟩)
  have HV := Lib.hid ((Po.errF_zero l).1 h0).2
  have HLEN := Lib.hid hlen
  clear hr h0 hlen
  go_enter Try.func24, Try.ntmps24
  go_wp2_with (go_at_call 62; (with_reducible refine HB2.out.mono ?_); rintro e w1 ⟨la, gv, sv, rfl, hl, hb⟩; have HL := Lib.hid hl; have HB1 := Lib.hid hb; clear hl hb)
  go_loopg [5, 6] 300 (fun kx s5 s6 wr => ∃ (i : Nat) (W : World), W = wr ∧ (∃ v5, s5 = .int .i64 v5 ∧ (i ≤ l.length → v5 = nextAt l i)) ∧ s6 = .int .i64 i ∧ i ≤ l.length + 1 ∧ 299 - i ≤ kx ∧ IsList w.heap.size wr la gv sv l ∧ Below w.heap.size w wr)
  case atStart => exact ⟨0, _, rfl, ⟨_, rfl, fun _ => rfl⟩, rfl, Nat.zero_le _, by omega, HL.out, HB1.out⟩
  case round =>
    obtain ⟨i, W, rfl, ⟨v5, rfl, hv5⟩, rfl, hi1, hk, hl, hb⟩ := hrel
    have HLW := Lib.hid hl
    have HBW := Lib.hid hb
    by_cases hi : i ≤ l.length
    case neg =>
      have hz1 : decide ((i : Int) ≤ (l.length : Int)) = false := by simp; omega
      have hz2 : l.length < i := by omega
      clear hv5 hi1 hk hl hb hi
      go_wp2_with (go_at_call 36; (with_reducible refine (awake17_true _).mono ?_); rintro e w5 ⟨rfl, hb⟩; have HB6 := Lib.hid (HBW.out.trans (hb.mono HBW.out.size)); clear hb)
      go_ret
      exact ⟨rfl, HB6.out⟩
    obtain rfl := hv5 hi
    clear hv5 hi1
    have hz1 : decide ((i : Int) ≤ (l.length : Int)) = true := by simp; omega
    obtain ⟨at_, hat⟩ : ∃ a, nextAt l i = a := ⟨_, rfl⟩
    have hrk := rk_next HV.out i hi
    rw [hat] at hrk
    have HSE : Hid (Calls Try.prog 40 #[.pointer (some ⟨la, 0, none⟩), .int .i64 at_] W fun e w' => e = .returned (.tuple #[.int .i64 (l.getD i 0), .int .i64 (i : Nat), .bool (decide (i < l.length))]) ∧ Below W.heap.size W w') := Lib.hid (by
      have h := seek_calls _ la gv sv l at_ W hl
      unfold SeekPost Po.seekP at h
      rw [hrk] at h
      exact h)
    have hle := Lib.hid (Po.rk_ge l at_)
    rw [hat]
    clear hl hb
    by_cases hlt : i < l.length
    · obtain ⟨p, hp⟩ : ∃ p, l.getD i 0 = p := ⟨_, rfl⟩
      have hV := HV.out i hlt
      have hpr1 := hV.1
      have hpr2 := hV.2.1
      rw [hp] at hpr1 hpr2
      have hpa : at_ ≤ p := by have := hle.out (by rw [hrk]; exact hlt); rw [hrk, hp] at this; exact this
      have hd1 : decide (i < l.length) = true := decide_eq_true hlt
      have hd2 : decide ((i : Int) < (l.length : Int)) = true := by simp; omega
      rw [hd1, hp] at HSE
      have hnext : nextAt l (i + 1) = p + 1 := by show l.getD i 0 + 1 = p + 1; rw [hp]
      have HAT : Hid (∀ W2, IsList w.heap.size W2 la gv sv l → Calls Try.prog 64 #[.pointer (some ⟨la, 0, none⟩), .int .i64 (i : Nat)] W2 fun e w' => e = .returned (.tuple #[.int .i64 p, .bool true]) ∧ Below W2.heap.size W2 w') := Lib.hid (fun W2 h2 => by
        have h := at_calls _ la gv sv l i W2 h2 hlt
        rw [hp] at h; exact h)
      have HR1 : Hid (∀ W2, IsList w.heap.size W2 la gv sv l → Calls Try.prog 61 #[.pointer (some ⟨la, 0, none⟩), .int .i64 p] W2 fun e w' => e = .returned (.int .i64 (i : Nat)) ∧ Below W2.heap.size W2 w') := Lib.hid (fun W2 h2 => by
        have h := rank_calls _ la gv sv l p W2 h2
        rw [← hp, rk_here HV.out i hlt, hp] at h; exact h)
      have HR2 : Hid (∀ W2, IsList w.heap.size W2 la gv sv l → Calls Try.prog 61 #[.pointer (some ⟨la, 0, none⟩), .int .i64 (p + 1)] W2 fun e w' => e = .returned (.int .i64 ((i : Int) + 1)) ∧ Below W2.heap.size W2 w') := Lib.hid (fun W2 h2 => by
        have h := rank_calls _ la gv sv l (p + 1) W2 h2
        rw [← hnext, rk_next HV.out (i + 1) (by omega), hnext] at h; exact h)
      have hd3 : decide (p < at_) = false := by simp; omega
      have HW1 : Hid (RowKit.wrap64 (p + 1) = p + 1) := Lib.hid (wsmall' rfl (by omega) (by omega))
      have HW2 : Hid (RowKit.wrap64 ((i : Int) + 1) = (i : Int) + 1) := Lib.hid (wsmall' rfl (by omega) (by have := HLEN.out; omega))
      have HLT := Lib.hid hlt
      have HKX := Lib.hid hk
      have HNE := Lib.hid hnext
      have hne1 : ¬ (p = p + 1) := by omega
      clear hp hV hpr1 hpr2 hpa hnext hi hk hle hat hrk hne1
      have x1 := HW1.out
      have x2 := HW2.out
      go_wp2_with (first
        | (go_at_call 40; (with_reducible refine HSE.out.mono ?_); rintro e w2 ⟨rfl, hb2⟩; have HBB2 := Lib.hid (HBW.out.trans (hb2.mono HBW.out.size)); have HL2 := Lib.hid (HLW.out.later hb2); clear hb2)
        | (go_at_call 64; (with_reducible refine (HAT.out _ HL2.out).mono ?_); rintro e w3 ⟨rfl, hb3⟩; have HBB3 := Lib.hid (HBB2.out.trans (hb3.mono HBB2.out.size)); have HL3 := Lib.hid (HL2.out.later hb3); clear hb3)
        | (go_at_call_of 61 (Value.int .i64 p); (with_reducible refine (HR1.out _ HL3.out).mono ?_); rintro e w4 ⟨rfl, hb4⟩; have HBB4 := Lib.hid (HBB3.out.trans (hb4.mono HBB3.out.size)); have HL4 := Lib.hid (HL3.out.later hb4); clear hb4)
        | (go_at_call 61; (with_reducible refine (HR2.out _ HL4.out).mono ?_); rintro e w5 ⟨rfl, hb5⟩; have HBB5 := Lib.hid (HBB4.out.trans (hb5.mono HBB4.out.size)); have HL5 := Lib.hid (HL4.out.later hb5); clear hb5))
      go_roundg (299 - (i + 1))
      case measure => clear x1 x2; have := HKX.out; have := HLT.out; have := HLEN.out; omega
      case rel => exact ⟨i + 1, _, rfl, ⟨p + 1, by first | exact congrArg (Value.int .i64) HW1.out | rfl, fun _ => HNE.out.symm⟩, by first | rfl | exact congrArg (Value.int .i64) HW2.out, by have := HLT.out; clear x1 x2; omega, Nat.le_refl _, HL5.out, HBB5.out⟩
    · obtain rfl : i = l.length := by omega
      have hd1 : decide (l.length < l.length) = false := by simp
      have hd2 : decide ((l.length : Int) < (l.length : Int)) = false := by simp
      rw [hd1] at HSE
      obtain ⟨p, hp⟩ : ∃ p, l.getD l.length 0 = p := ⟨_, rfl⟩
      rw [hp] at HSE
      have HW2 : Hid (RowKit.wrap64 ((l.length : Int) + 1) = (l.length : Int) + 1) := Lib.hid (wsmall' rfl (by omega) (by have := HLEN.out; omega))
      have HKX := Lib.hid hk
      clear hp hle hat hrk hlt hi hk
      have x2 := HW2.out
      go_wp2_with (go_at_call 40; (with_reducible refine HSE.out.mono ?_); rintro e w2 ⟨rfl, hb2⟩; have HBB2 := Lib.hid (HBW.out.trans (hb2.mono HBW.out.size)); have HL2 := Lib.hid (HLW.out.later hb2); clear hb2)
      go_roundg (299 - (l.length + 1))
      case measure => clear x2; have := HKX.out; have := HLEN.out; omega
      case rel => exact ⟨l.length + 1, _, rfl, ⟨at_, rfl, fun h => by clear x2; omega⟩, by first | rfl | exact congrArg (Value.int .i64) HW2.out, Nat.le_refl _, Nat.le_refl _, HL2.out, HBB2.out⟩
set_option maxHeartbeats 2000000 in
set_option maxRecDepth 100000 in
theorem walks_out (A0 : Option Addr) (c0 : Nat) (l : List Int) (w : World) (hr : Kd.C (Kd.int .i64) w A0 l.length l) (h : 200 < l.length ∨ Po.errF l ≠ 0) :
    Calls Try.prog 24 #[.slice A0 l.length c0] w fun e w' => e = .returned (.bool true) ∧ Below w.heap.size w w' := by
  have HB : Hid (Calls Try.prog 62 #[.slice A0 l.length c0] w fun e w' => ∃ pv : Option Addr, e = .returned (.tuple #[.pointer pv, .int .i64 (Po.errF l)]) ∧ Below w.heap.size w w') := Lib.hid (by
    have hq : Calls Try.prog 62 #[.slice A0 l.length c0] w fun e w' => BuildPost w l e w' := by
      by_cases h4 : 4096 < l.length
      · exact build_long A0 c0 l w h4
      · exact build_calls A0 c0 l w hr (by omega)
    refine hq.mono fun e w' hq => ?_
    obtain ⟨h1, h2⟩ := hq
    rcases h1 with ⟨_, he⟩ | ⟨h0, a, gv, sv, he, _⟩
    · exact ⟨_, he, h2⟩
    · exact ⟨_, by rw [h0]; exact he, h2⟩)
  obtain ⟨er, her⟩ : ∃ er, Po.errF l = er := ⟨_, rfl⟩
  rw [her] at HB h
  clear hr her
  by_cases h2 : 200 < l.length
  · have hz : decide ((200 : Int) < (l.length : Int)) = true := by simp; omega
    clear h
    go_enter Try.func24, Try.ntmps24
    go_wp2_with (go_at_call 62; (with_reducible refine HB.out.mono ?_); rintro e w1 ⟨pv, rfl, hb⟩; have HB1 := Lib.hid hb; clear hb)
    go_ret
    exact ⟨rfl, HB1.out⟩
  · have hz : decide ((200 : Int) < (l.length : Int)) = false := by simp; omega
    have hne : er ≠ 0 := by rcases h with h | h; exact absurd h h2; exact h
    have hd : (er != 0) = true := by simpa using hne
    have hd2 : (er == 0) = false := by simpa using hne
    clear h
    go_enter Try.func24, Try.ntmps24
    go_wp2_with (go_at_call 62; (with_reducible refine HB.out.mono ?_); rintro e w1 ⟨pv, rfl, hb⟩; have HB1 := Lib.hid hb; clear hb)
    go_ret
    exact ⟨rfl, HB1.out⟩
end Go.Proofs.Ytmeojlamadcedaa
namespace Go.Proofs.Ytmeojlamadcedaa.Given
open Go.RowKit Go.Sort Go.Proofs.YtmeojlamadcedaaW.PrintWords Go.Proofs.YtmeojlamadcedaaW.PrintLast
def corporalaw17_PostingsWalks.f (_l0 : List Int) : Option Bool := some true
theorem corporalaw17_PostingsWalks.calls (A0 : Option Addr) (c0 : Nat) (l0 : List Int) (r : Bool) (w : World) (hr0 : Kd.C (Kd.int .i64) w A0 l0.length l0) (hc0 : l0.length ≤ c0) (h : corporalaw17_PostingsWalks.f l0 = some r) :
    Calls Try.prog 24 #[.slice A0 l0.length c0] w fun e w' => e = .returned (.bool r) ∧ Below w.heap.size w w' := by
  obtain rfl := Option.some.inj h
  clear hc0
  by_cases hl : l0.length ≤ 200
  · by_cases he : Po.errF l0 = 0
    · exact walks_in A0 c0 l0 w hr0 hl he
    · exact walks_out A0 c0 l0 w hr0 (.inr he)
  · exact walks_out A0 c0 l0 w hr0 (.inl (by omega))
end Go.Proofs.Ytmeojlamadcedaa.Given
