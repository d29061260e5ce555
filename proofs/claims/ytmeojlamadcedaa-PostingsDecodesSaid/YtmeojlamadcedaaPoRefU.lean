/- corporaref02.Uvarint.
   Conditions: those of the theorems. -/
import Derived.Test.YtmeojlamadcedaaPoA

namespace Go.Proofs.Ytmeojlamadcedaa
open Go.RowKit Go.Sort Go.Proofs.YtmeojlamadcedaaW.PrintWords

set_option maxHeartbeats 4000000 in
set_option maxRecDepth 100000 in
theorem refU_calls (x : Nat) (w : World) (hx : x < 18446744073709551616) :
    Calls Try.prog 76 #[.int .u64 (x : Nat)] w fun e w' => ∃ v, e = .returned v ∧ w'.ownsRow w.heap.size 5 1 v (Po.uvar x).length (vals (Po.uvar x)) ∧ Below w.heap.size w w' := by
  go_enter Try.func76, Try.ntmps76
  go_wp2
  go_loopg [0, 3] 10 (fun kx s1 s5 wr => ∃ (k x1 : Nat) (pre : List UInt8) (W : World), W = wr ∧ s1 = .int .u64 x1 ∧ k ≤ 9 ∧ k + 1 ≤ kx ∧ x1 < 2 ^ (7 * k + 1) ∧ pre.length ≤ 9 - k ∧ pre ++ Po.uvF k x1 = Po.uvar x ∧ wr.ownsRow w.heap.size 5 1 s5 (vals pre).length (vals pre) ∧ Below w.heap.size w wr)
  case atStart => exact ⟨9, x, [], _, rfl, rfl, by omega, by omega, hx, by simp, rfl, World.ownsRow_nil _ _ _ _, Below.refl _ _⟩
  case round =>
    obtain ⟨k, x1, pre, W, rfl, rfl, hk9, hkx, hxk, hpre, hpu, hown, hbel⟩ := hrel
    obtain ⟨oA, oC, rfl⟩ := own_slice hown
    have HOWN := Lib.hid hown
    have HBEL := Lib.hid hbel
    have HPU := Lib.hid hpu
    have HXK := Lib.hid hxk
    have h64 : 2 ^ (7 * k + 1) ≤ 2 ^ 64 := Nat.pow_le_pow_right (by omega) (by omega)
    have hx64 : x1 < 18446744073709551616 := Nat.lt_of_lt_of_le hxk h64
    have HMX : Hid (((vals pre).length + 1) * 1 ≤ 140737488355328) := Lib.hid (by rw [vals_len]; omega)
    clear hown hbel hpu h64 hxk
    by_cases h128 : x1 < 128
    · have hz : decide ((128 : Int) ≤ (x1 : Int)) = false := by simp; omega
      have hlow := uvF_low k x1 h128
      have HRES : Hid (vals pre ++ [Value.int .u8 (x1 : Nat)] = vals (Po.uvar x)) := Lib.hid (by
        rw [← HPU.out, hlow, vals_snoc _ _ (by omega)])
      have hmod := u8_wrap_mod x1
      have hwx : IntKind.u8.wrap (x1 : Int) = (x1 : Int) := by rw [hmod]; omega
      clear hlow hmod hpre
      generalize vals pre = ns at *
      go_wp2_with (first
        | ((with_reducible refine gate_dst (N := 19) rfl ?_); refine print_append (w0 := w) (W := W) w.heap.size rfl (.tmp 15) (.tmp 18) 22 5 (.int .u8 0) 1 rfl (show Try.prog.underlying 22 = some (.slice 5) by kernel_rfl) (by kernel_rfl) rfl (by decide) (.slice oA ns.length oC) ns (.int .u8 (x1 : Nat)) rfl rfl rfl HOWN.out HBEL.out HBEL.out.size HMX.out ?_
           ; intro v2 w2 hown2 hb2 _ _; have HO2 := Lib.hid hown2; have HB2 := Lib.hid hb2; clear hown2 hb2))
      go_ret
      have h := HO2.out
      rw [HRES.out, vals_len] at h
      exact ⟨v2, rfl, h, HB2.out⟩
    · obtain ⟨k1, rfl⟩ : ∃ k1, k = k1 + 1 := by
        cases k with
        | zero => have := HXK.out; simp at this; omega
        | succ k => exact ⟨k, rfl⟩
      have hz : decide ((128 : Int) ≤ (x1 : Int)) = true := by simp; omega
      obtain ⟨x2, hx2⟩ : ∃ x2, x1 / 128 = x2 := ⟨_, rfl⟩
      have hdiv : (x1 : Int) / 128 = (x2 : Int) := by omega
      have hdiv2 : Int.tdiv (x1 : Int) 128 = (x2 : Int) := by rw [Int.tdiv_eq_ediv_of_nonneg (by omega)]; exact hdiv
      obtain ⟨y, hy⟩ : ∃ y, x1 % 128 = y := ⟨_, rfl⟩
      have hy8 : y < 128 := by omega
      have hmd : (x1 : Int) % 128 = (y : Int) := by omega
      have hmd2 : Int.tmod (x1 : Int) 128 = (y : Int) := by rw [Int.tmod_eq_emod_of_nonneg (by omega)]; exact hmd
      have hwy : IntKind.u8.wrap (y : Int) = (y : Int) := by rw [u8_wrap_mod y]; omega
      have hwy3 : IntKind.u64.wrap (y : Int) = (y : Int) := by simp [IntKind.wrap, IntKind.bits, IntKind.signed]; omega
      have hwx2 : IntKind.u64.wrap (x2 : Int) = (x2 : Int) := by simp [IntKind.wrap, IntKind.bits, IntKind.signed]; omega
      obtain ⟨z, hzz⟩ : ∃ z, y + 128 = z := ⟨_, rfl⟩
      have hzI : (y : Int) + 128 = (z : Int) := by omega
      have hwz : IntKind.u8.wrap (z : Int) = (z : Int) := by rw [u8_wrap_mod z]; omega
      have HZ : Hid (z = x1 % 128 + 128 ∧ z < 256) := Lib.hid (by omega)
      have HNX : Hid (x2 < 2 ^ (7 * k1 + 1) ∧ (pre ++ [UInt8.ofNat z]) ++ Po.uvF k1 x2 = Po.uvar x ∧ vals pre ++ [Value.int .u8 (z : Nat)] = vals (pre ++ [UInt8.ofNat z]) ∧ (pre ++ [UInt8.ofNat z]).length ≤ 9 - k1) := Lib.hid (by
        refine ⟨?_, ?_, ?_, ?_⟩
        · rw [← hx2]
          have h := HXK.out
          rw [show 7 * (k1 + 1) + 1 = (7 * k1 + 1) + 7 by omega, Nat.pow_add] at h
          exact Nat.div_lt_of_lt_mul (by rw [Nat.mul_comm]; exact h)
        · rw [← HPU.out, uvF_high k1 x1 h128, hx2, ← HZ.out.1, List.append_assoc]; rfl
        · rw [vals_snoc _ _ HZ.out.2]
        · rw [List.length_append]; simp; omega)
      have HK9 : Hid (k1 + 1 ≤ 9 ∧ k1 + 1 + 1 ≤ gk) := Lib.hid ⟨hk9, hkx⟩
      clear hx2 hy hzz h128 hpre hk9 hkx hx64
      generalize vals pre = ns at *
      go_wp2_with (first
        | ((with_reducible refine gate_dst (N := 12) rfl ?_); refine print_append (w0 := w) (W := W) w.heap.size rfl (.tmp 6) (.tmp 11) 22 5 (.int .u8 0) 1 rfl (show Try.prog.underlying 22 = some (.slice 5) by kernel_rfl) (by kernel_rfl) rfl (by decide) (.slice oA ns.length oC) ns (.int .u8 (z : Nat)) rfl rfl rfl HOWN.out HBEL.out HBEL.out.size HMX.out ?_
           ; intro v2 w2 hown2 hb2 _ _; have HO2 := Lib.hid hown2; have HB2 := Lib.hid hb2; clear hown2 hb2))
      go_roundg (k1 + 1)
      case measure => have := HK9.out; omega
      case rel =>
        have h := HO2.out
        rw [HNX.out.2.2.1] at h
        exact ⟨k1, x2, _, _, rfl, rfl, by have := HK9.out; omega, Nat.le_refl _, HNX.out.1, HNX.out.2.2.2, HNX.out.2.1, h, HB2.out⟩
end Go.Proofs.Ytmeojlamadcedaa
