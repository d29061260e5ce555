/- bitio.PutUvarint.
   Conditions: those of the theorems. -/
import Derived.Test.YtmeojlamadcedaaPoP
import Derived.Laws.CopyOwn
import Derived.Laws.MakeOwn
namespace Go.Proofs.Ytmeojlamadcedaa
open Go.RowKit Go.Sort Go.Proofs.YtmeojlamadcedaaW.PrintWords

theorem byte_or : ∀ y : Fin 256, (y.val ||| 128) = y.val % 128 + 128 := by decide +kernel
theorem u8_or_high (y : Nat) (h : y < 256) : bits .or .u8 (y : Int) 128 = ((y % 128 + 128 : Nat) : Int) := by
  rw [show (128 : Int) = ((128 : Nat) : Int) from rfl, u8_or_nat _ _ h (by decide), byte_or ⟨y, h⟩]
theorem uvF_high (k x : Nat) (h : ¬ x < 128) : Po.uvF (k + 1) x = UInt8.ofNat (x % 128 + 128) :: Po.uvF k (x / 128) := by rw [Po.uvF, if_neg h]
theorem uvF_low (k x : Nat) (h : x < 128) : Po.uvF k x = [UInt8.ofNat x] := by
  cases k with
  | zero => rfl
  | succ k => rw [Po.uvF, if_pos h]
theorem u8_wrap_mod (x : Nat) : IntKind.u8.wrap (x : Int) = ((x % 256 : Nat) : Int) := by
  simp [IntKind.wrap, IntKind.bits, IntKind.signed]
theorem vals_snoc (l : List UInt8) (x : Nat) (h : x < 256) : vals (l ++ [UInt8.ofNat x]) = vals l ++ [.int .u8 (x : Nat)] := by
  unfold vals
  rw [List.map_append, List.map_singleton, UInt8.toNat_ofNat', Nat.mod_eq_of_lt h]
theorem vals_len (l : List UInt8) : (vals l).length = l.length := by simp [vals]
theorem one_u8 (x : Int) : ∀ u ∈ [Value.int .u8 x], u.oneCell' = true := fun u hu => by simp at hu; subst hu; rfl

set_option maxHeartbeats 4000000 in
set_option maxRecDepth 100000 in
theorem putU_calls (A : Option Addr) (c : Nat) (b : List UInt8) (x : Nat) (w : World) (hr : ReadsInt w .u8 A b.length (Given.ints b)) (hx : x < 18446744073709551616) (hb : b.length < 1000000000) :
    Calls Try.prog 71 #[.slice A b.length c, .int .u64 (x : Nat)] w fun e w' => ∃ v, e = .returned v ∧ w'.ownsRow w.heap.size 5 1 v (b ++ Po.uvar x).length (vals (b ++ Po.uvar x)) ∧ Below w.heap.size w w' := by
  obtain ⟨i, hi, hi1, hi2, hi3⟩ := info5
  obtain ⟨n, hn⟩ : ∃ n, b.length = n := ⟨_, rfl⟩
  have hmk := run_make (P := Try.prog) w 22 5 i (.int .u8 0) (show Try.prog.underlying 22 = some (.slice 5) by kernel_rfl) hi hi1 .i64 .i64 (n : Int) ((n : Int) + 10) (by omega) (by omega) (by rw [hi3]; omega) (by omega)
  have hmc : madeCells (Value.int .u8 0).cells (((n : Int) + 10).toNat * i.size) = (List.replicate (n + 10) (Value.int .u8 0)).toArray := by
    rw [hi2, show ((n : Int) + 10).toNat * 1 = n + 10 by omega]
    have h := toList_madeCells_one (.int .u8 0) (n + 10)
    rw [← h, Array.toArray_toList]; rfl
  rw [hmc, show ((n : Int) + 10).toNat = n + 10 by omega, show ((n : Int)).toNat = n by omega] at hmk
  have hw10 : Hid (RowKit.wrap64 ((n : Int) + 10) = (n : Int) + 10) := Lib.hid (wsmall' rfl (by omega) (by omega))
  have HRA : Hid (ReadsInt (w.alloc (.cells (List.replicate (n + 10) (Value.int .u8 0)).toArray 5)) .u8 A n (Given.ints b)) := Lib.hid (by rw [← hn]; exact hr.allocS _)
  have HVL : Hid ((vals b).length = n) := Lib.hid (by rw [vals_len, hn])
  have HN := Lib.hid hn
  have HSP : Hid (splice (List.replicate (n + 10) (Value.int .u8 0)) 0 (vals b) = vals b ++ List.replicate 10 (Value.int .u8 0)) := Lib.hid (by
    unfold splice
    rw [List.take_zero, List.nil_append, Nat.zero_add, HVL.out, List.drop_replicate, Nat.add_sub_cancel_left])
  have HP : Hid (0 < (vals b).length → (some ⟨w.heap.size, 0, none⟩ : Option Addr) = some ⟨w.heap.size, 0, none⟩ ∧ ∃ ad, A = some ad ∧ ∀ j v, (vals b)[j]? = some v → (w.alloc (.cells (List.replicate (n + 10) (Value.int .u8 0)).toArray 5)).cell? (ad.add j) = some v) := Lib.hid (fun h0 => by
    obtain ⟨ad, e, hc⟩ := HRA.out.2.2 (by rw [HVL.out] at h0; exact h0)
    refine ⟨rfl, ad, e, fun j v hj => ?_⟩
    have hjl : j < (vals b).length := (List.getElem?_eq_some_iff.mp hj).1
    rw [hc j (by rw [HVL.out] at hjl; exact hjl), ← hj, vals_nums]
    unfold nums
    rw [List.getElem?_map, List.getD_eq_getElem?_getD, List.getElem?_eq_getElem (by rw [Given.ints_len, ← vals_len]; exact hjl)]; rfl)
  have HMIN : Hid ((vals b).length = Nat.min n n) := Lib.hid (by rw [HVL.out]; exact (Nat.min_self n).symm)
  have HFIT : Hid (0 + (vals b).length ≤ (List.replicate (n + 10) (Value.int .u8 0)).length) := Lib.hid (by rw [HVL.out, List.length_replicate]; omega)
  have HBB := Lib.hid hb
  have hnn : (0 : Int) ≤ (n : Int) := by omega
  rw [hn]
  have hwk := hw10.out
  clear hr hn hmc hb hi hi1 hi2 hi3
  go_enter Try.func71, Try.ntmps71
  go_wp2_with (first
    | ((with_reducible refine gate_dst (N := 14) rfl ?_); refine wpList_copy_splice rfl (.tmp 12) (.tmp 13) 22 22 rfl 5 (show Try.prog.underlying 22 = some (.slice 5) by kernel_rfl) (by kernel_rfl) (some ⟨w.heap.size, 0, none⟩) A n (n + 10) n c rfl rfl w.heap.size 0 (List.replicate (n + 10) (Value.int .u8 0)) 5 (blk_new _ _) (vals b) HMIN.out HP.out HFIT.out (vals_one b) w.heap.size w ((Below.refl _ w).alloc (Nat.le_refl _) _) (Nat.le_refl _) ?_
       ; intro w1 hk1 hb1; have HK1 := hk1; have HB1 := Lib.hid hb1; clear hb1 hk1))
  have hst : Hid (w1.ownsRow w.heap.size 5 1 (.slice (some ⟨w.heap.size, 0, none⟩) n (n + 10)) (vals b).length (vals b)) := Lib.hid (by
    have hk := HK1.out
    rw [HSP.out] at hk
    refine ⟨(Nat.mul_one _).symm, .inr ⟨w.heap.size, n + 10, (vals b ++ List.replicate 10 (Value.int .u8 0)).toArray, by rw [HVL.out], Nat.le_refl _, hk, by rw [HVL.out]; omega, by have := HBB.out; have := HVL.out; have := HN.out; simp only [maxLen]; omega, by rw [List.size_toArray, List.length_append, HVL.out, List.length_replicate, Nat.mul_one], ?_⟩⟩
    rw [Nat.mul_one]
    exact List.take_left)
  clear hmk hwk
  go_loopg [1, 5] 10 (fun kx s1 s5 wr => ∃ (k x1 : Nat) (pre : List UInt8) (W : World), W = wr ∧ s1 = .int .u64 x1 ∧ k ≤ 9 ∧ k + 1 ≤ kx ∧ x1 < 2 ^ (7 * k + 1) ∧ pre.length ≤ 9 - k ∧ pre ++ Po.uvF k x1 = Po.uvar x ∧ wr.ownsRow w.heap.size 5 1 s5 (vals (b ++ pre)).length (vals (b ++ pre)) ∧ Below w.heap.size w wr)
  case atStart => exact ⟨9, x, [], _, rfl, rfl, by omega, by omega, hx, by simp, rfl, by rw [List.append_nil]; exact hst.out, HB1.out⟩
  case round =>
    obtain ⟨k, x1, pre, W, rfl, rfl, hk9, hkx, hxk, hpre, hpu, hown, hbel⟩ := hrel
    obtain ⟨oA, oC, rfl⟩ := own_slice hown
    have HOWN := Lib.hid hown
    have HBEL := Lib.hid hbel
    have HPU := Lib.hid hpu
    have HXK := Lib.hid hxk
    have h64 : 2 ^ (7 * k + 1) ≤ 2 ^ 64 := Nat.pow_le_pow_right (by omega) (by omega)
    have hx64 : x1 < 18446744073709551616 := Nat.lt_of_lt_of_le hxk h64
    have HX64 := Lib.hid hx64
    have HMX : Hid (((vals (b ++ pre)).length + 1) * 1 ≤ 140737488355328) := Lib.hid (by
      rw [vals_len, List.length_append, HN.out]; have := HBB.out; rw [HN.out] at this; omega)
    have hmod := u8_wrap_mod x1
    have hm256 : x1 % 256 < 256 := Nat.mod_lt _ (by omega)
    clear hown hbel hpu h64 hxk hx64 hst
    by_cases h128 : x1 < 128
    · have hz : decide ((128 : Int) ≤ (x1 : Int)) = false := by simp; omega
      have hlow := uvF_low k x1 h128
      have HRES : Hid (vals (b ++ pre) ++ [Value.int .u8 (x1 : Nat)] = vals (b ++ Po.uvar x)) := Lib.hid (by
        rw [← HPU.out, hlow, ← List.append_assoc, vals_snoc _ _ (by omega)])
      have hwx : IntKind.u8.wrap (x1 : Int) = (x1 : Int) := by rw [hmod]; omega
      clear hlow hmod hm256 hpre
      generalize vals (b ++ pre) = ns at *
      go_wp2_with (first
        | ((with_reducible refine gate_dst (N := 29) rfl ?_); refine print_append (w0 := w) (W := W) w.heap.size rfl (.tmp 25) (.tmp 28) 22 5 (.int .u8 0) 1 rfl (show Try.prog.underlying 22 = some (.slice 5) by kernel_rfl) (by kernel_rfl) rfl (by decide) (.slice oA ns.length oC) ns (.int .u8 (x1 : Nat)) rfl rfl rfl HOWN.out HBEL.out HBEL.out.size HMX.out ?_
           ; intro v2 w2 hown2 hb2 _ _; have HO2 := Lib.hid hown2; have HB2 := Lib.hid hb2; clear hown2 hb2))
      go_ret
      have h := HO2.out
      rw [HRES.out, vals_len] at h
      exact ⟨v2, rfl, h, HB2.out⟩
    · obtain ⟨k1, rfl⟩ : ∃ k1, k = k1 + 1 := by
        cases k with
        | zero => have := HXK.out; simp at this; omega
        | succ k => exact ⟨k, rfl⟩
      have hz : decide ((128 : Int) ≤ (x1 : Int)) = true := by simp; omega
      obtain ⟨x2, hx2⟩ : ∃ x2, x1 / 128 = x2 := ⟨_, rfl⟩
      have hdiv : (x1 : Int) / 128 = (x2 : Int) := by omega
      obtain ⟨y, hy⟩ : ∃ y, x1 % 256 = y := ⟨_, rfl⟩
      rw [hy] at hmod hm256
      have hor := u8_or_high y hm256
      obtain ⟨z, hzz⟩ : ∃ z, y % 128 + 128 = z := ⟨_, rfl⟩
      rw [hzz] at hor
      have HZ : Hid (z = x1 % 128 + 128 ∧ z < 256) := Lib.hid (by omega)
      have HNX : Hid (x2 < 2 ^ (7 * k1 + 1) ∧ (pre ++ [UInt8.ofNat z]) ++ Po.uvF k1 x2 = Po.uvar x ∧ vals (b ++ pre) ++ [Value.int .u8 (z : Nat)] = vals (b ++ (pre ++ [UInt8.ofNat z])) ∧ (pre ++ [UInt8.ofNat z]).length ≤ 9 - k1) := Lib.hid (by
        refine ⟨?_, ?_, ?_, ?_⟩
        · rw [← hx2]
          have h := HXK.out
          rw [show 7 * (k1 + 1) + 1 = (7 * k1 + 1) + 7 by omega, Nat.pow_add] at h
          exact Nat.div_lt_of_lt_mul (by rw [Nat.mul_comm]; exact h)
        · rw [← HPU.out, uvF_high k1 x1 h128, hx2, ← HZ.out.1, List.append_assoc]; rfl
        · rw [← List.append_assoc, vals_snoc _ _ HZ.out.2]
        · rw [List.length_append]; simp; omega)
      have HK9 : Hid (k1 + 1 ≤ 9 ∧ k1 + 1 + 1 ≤ gk) := Lib.hid ⟨hk9, hkx⟩
      clear hx2 hy hzz h128 hpre hk9 hkx
      generalize vals (b ++ pre) = ns at *
      go_wp2_with (first
        | ((with_reducible refine gate_dst (N := 22) rfl ?_); refine print_append (w0 := w) (W := W) w.heap.size rfl (.tmp 17) (.tmp 21) 22 5 (.int .u8 0) 1 rfl (show Try.prog.underlying 22 = some (.slice 5) by kernel_rfl) (by kernel_rfl) rfl (by decide) (.slice oA ns.length oC) ns (.int .u8 (z : Nat)) rfl rfl rfl HOWN.out HBEL.out HBEL.out.size HMX.out ?_
           ; intro v2 w2 hown2 hb2 _ _; have HO2 := Lib.hid hown2; have HB2 := Lib.hid hb2; clear hown2 hb2))
      go_roundg (k1 + 1)
      case measure => have := HK9.out; omega
      case rel =>
        have h := HO2.out
        rw [HNX.out.2.2.1] at h
        exact ⟨k1, x2, _, _, rfl, rfl, by have := HK9.out; omega, Nat.le_refl _, HNX.out.1, HNX.out.2.2.2, HNX.out.2.1, h, HB2.out⟩
end Go.Proofs.Ytmeojlamadcedaa
