/- What bitio.Uvarint and the reference's Take come to: a number in groups of seven bits, read.
   Conditions: those of the theorems. -/
import Derived.Test.YtmeojlamadcedaaPoDec
import Derived.Test.YtmeojlamadcedaaCkU
import Derived.Test.YtmeojlamadcedaaDx1

namespace Go.Proofs.Ytmeojlamadcedaa.Po
open Go.RowKit Go.Sort Go.Proofs.Ytmeojlamadcedaa.Given Go.Proofs.YtmeojlamadcedaaW.PrintWords Go.Proofs.YtmeojlamadcedaaW.PrintLast Go.Proofs.YtmeojlamadcedaaW.PrintMore

theorem or_shift (v c i : Nat) (hv : v < 2 ^ (7 * i)) (hb : c * 2 ^ (7 * i) < 18446744073709551616) (hi : i ≤ 9) :
    Go.bits .or .u64 (v : Int) (shl .u64 (c : Int) ((7 * i : Nat) : Int)) = ((v + c * 2 ^ (7 * i) : Nat) : Int) := by
  have hv64 : v < 18446744073709551616 := Nat.lt_of_lt_of_le hv (show 2 ^ (7 * i) ≤ 2 ^ 64 from Nat.pow_le_pow_right (by omega) (by omega))
  have e : shl .u64 (c : Int) ((7 * i : Nat) : Int) = ((c * 2 ^ (7 * i) : Nat) : Int) := by
    unfold shl
    rw [Int.toNat_natCast, Nat.min_eq_left (show 7 * i ≤ IntKind.u64.bits from by show 7 * i ≤ 64; omega)]
    rw [show (c : Int) * 2 ^ (7 * i) = ((c * 2 ^ (7 * i) : Nat) : Int) by rw [Int.natCast_mul, Int.natCast_pow]; rfl]
    generalize c * 2 ^ (7 * i) = q at *
    simp [IntKind.wrap, IntKind.bits, IntKind.signed]; omega
  rw [e, u64_or_nat _ _ hv64 hb, Nat.or_comm]
  have h1 := Nat.shiftLeft_add_eq_or_of_lt (a := c) (b := v) (i := 7 * i) hv
  rw [Nat.shiftLeft_eq] at h1
  rw [← h1, Nat.add_comm]
theorem and_127 (c : Nat) (h : c < 256) : Go.bits .and .u8 (c : Int) 127 = ((c % 128 : Nat) : Int) := by
  rw [show (127 : Int) = ((127 : Nat) : Int) from rfl, u8_and_nat _ _ h (by decide), show 127 = 2 ^ 7 - 1 from rfl, Nat.and_two_pow_sub_one_eq_mod]

def res3 (r : Nat × Nat × Int) : Int × Int × Int := ((r.1 : Int), (r.2.1 : Int), r.2.2)
theorem uv_l (b : List UInt8) (hb : b.length < 1000000000) : ∀ (d i v : Nat), i + d = b.length → i ≤ 9 → v < 2 ^ (7 * i) →
    Ev (fun k => D.bitio_Uvarint.l0 k (v : Int) (ints b) (b.length : Int) (i : Int)) (res3 (tkU (b.drop i) i v))
  | 0, i, v, hd, hi, hv => by
    obtain rfl : i = b.length := by omega
    refine Ev0.Ev_next ?_
    have c : ¬ ((b.length : Int) < (b.length : Int)) := by omega
    have e : ∀ k, D.bitio_Uvarint.l0 (k + 1) (v : Int) (ints b) (b.length : Int) (b.length : Int) = some (res3 (tkU (b.drop b.length) b.length v)) := fun k => by
      rw [D.bitio_Uvarint.l0, if_neg c, List.drop_length]; rfl
    rw [funext e]
    exact Ev.now _
  | d + 1, i, v, hd, hi, hv => by
    have c1 : (i : Int) < (b.length : Int) := by omega
    have c0 : (0 : Int) ≤ (i : Int) := by omega
    have c2 : (i : Int) < ((ints b).length : Int) := by rw [ints_len]; exact c1
    have hlt : i < b.length := by omega
    obtain ⟨c, hc⟩ : ∃ c, b[i] = c := ⟨_, rfl⟩
    have hdrop : b.drop i = c :: b.drop (i + 1) := by rw [List.drop_eq_getElem_cons hlt, hc]
    have hrd : rd (ints b) (i : Int) = ((c.toNat : Nat) : Int) := by
      rw [Ev0.rd_nat, at_ints, List.getD_eq_getElem?_getD, List.getElem?_eq_getElem hlt, hc]; rfl
    have hcl := c.toNat_lt
    rw [hdrop, tkU]
    obtain ⟨n, hn⟩ : ∃ n, c.toNat = n := ⟨_, rfl⟩
    rw [hn] at hrd hcl ⊢
    have H7 : Hid (RowKit.wrap64 (7 * (i : Int)) = ((7 * i : Nat) : Int)) := Lib.hid (by rw [Ev0.wrap_i64_small (by omega) (by omega)]; omega)
    have h70 : (0 : Int) ≤ ((7 * i : Nat) : Int) := by omega
    have HW1 : Hid (RowKit.wrap64 ((i : Int) + 1) = ((i + 1 : Nat) : Int)) := Lib.hid (Ev0.w1 (by omega))
    have HAND : Hid (IntKind.u64.wrap (Go.bits .and .u8 (n : Int) 127) = ((n % 128 : Nat) : Int)) := Lib.hid (by
      rw [and_127 n hcl]; exact Ev0.wrap_u64_small (by omega))
    refine Ev0.Ev_next ?_
    -- the value behind this group
    have HVAL : Hid ((i = 9 → n = 1) → Go.bits .or .u64 (v : Int) (shl .u64 ((n % 128 : Nat) : Int) ((7 * i : Nat) : Int)) = ((v + (n % 128) * 2 ^ (7 * i) : Nat) : Int)) := Lib.hid (fun h9 => by
      refine or_shift v (n % 128) i hv ?_ hi
      rcases Nat.lt_or_ge i 9 with h | h
      · have h1 : 2 ^ (7 * i) ≤ 2 ^ 56 := Nat.pow_le_pow_right (by omega) (by omega)
        have h2 : (n % 128) * 2 ^ (7 * i) ≤ 127 * 2 ^ 56 := Nat.mul_le_mul (by omega) h1
        exact Nat.lt_of_le_of_lt h2 (by decide)
      · obtain rfl : i = 9 := by omega
        rw [h9 rfl]; decide)
    by_cases hbad : i = 9 ∧ n ≠ 1
    · rw [if_pos hbad]
      have e : ∀ k, D.bitio_Uvarint.l0 (k + 1) (v : Int) (ints b) (b.length : Int) (i : Int) = D.bitio_Uvarint.j1 k (v : Int) (i : Int) (n : Int) (ints b) (b.length : Int) (i : Int) true := fun k => by
        rw [D.bitio_Uvarint.l0, if_pos c1, if_pos c0, if_pos c2, hrd, if_pos (show (i : Int) = 9 by omega), show ((n : Int) != 1) = true from bne_iff_ne.mpr (by omega)]
      rw [funext e]
      refine Ev0.Ev_next ?_
      have e2 : ∀ k, D.bitio_Uvarint.j1 (k + 1) (v : Int) (i : Int) (n : Int) (ints b) (b.length : Int) (i : Int) true = some (res3 (0, 0, 9)) := fun k => by
        rw [D.bitio_Uvarint.j1, if_pos rfl]; rfl
      rw [funext e2]
      exact Ev.now _
    · rw [if_neg hbad]
      have h9 : i = 9 → n = 1 := fun h => by omega
      have e : ∀ k, D.bitio_Uvarint.l0 (k + 1) (v : Int) (ints b) (b.length : Int) (i : Int) = D.bitio_Uvarint.j1 k (v : Int) (i : Int) (n : Int) (ints b) (b.length : Int) (i : Int) false := fun k => by
        rw [D.bitio_Uvarint.l0, if_pos c1, if_pos c0, if_pos c2, hrd]
        by_cases hi9 : i = 9
        · rw [if_pos (show (i : Int) = 9 by omega), show ((n : Int) != 1) = false from bne_eq_false_iff_eq.mpr (by have := h9 hi9; omega)]
        · rw [if_neg (show ¬ (i : Int) = 9 by omega)]
      rw [funext e]
      refine Ev0.Ev_next ?_
      have HV2 := Lib.hid (HVAL.out h9)
      by_cases h128 : n < 128
      · rw [if_pos h128]
        have hm : n % 128 = n := Nat.mod_eq_of_lt h128
        have ci : (n : Int) < 128 := by omega
        by_cases hz : n = 0 ∧ 0 < i
        · rw [if_pos hz]
          have e2 : ∀ k, D.bitio_Uvarint.j1 (k + 1) (v : Int) (i : Int) (n : Int) (ints b) (b.length : Int) (i : Int) false = some (res3 (0, 0, 9)) := fun k => by
            rw [D.bitio_Uvarint.j1, if_neg (by decide), H7.out, if_pos h70, if_pos ci, if_pos (show (n : Int) = 0 by omega), if_pos (show (i : Int) > 0 by omega)]; rfl
          rw [funext e2]
          exact Ev.now _
        · rw [if_neg hz]
          have e2 : ∀ k, D.bitio_Uvarint.j1 (k + 1) (v : Int) (i : Int) (n : Int) (ints b) (b.length : Int) (i : Int) false = some (res3 (v + n * 2 ^ (7 * i), i + 1, 0)) := fun k => by
            rw [D.bitio_Uvarint.j1, if_neg (by decide), H7.out, if_pos h70, if_pos ci, HAND.out, HV2.out, HW1.out, hm]
            by_cases hn0 : n = 0
            · rw [if_pos (show (n : Int) = 0 by omega), if_neg (show ¬ (i : Int) > 0 by omega)]; rfl
            · rw [if_neg (show ¬ (n : Int) = 0 by omega)]; rfl
          rw [funext e2]
          exact Ev.now _
      · rw [if_neg h128]
        have hi9 : i < 9 := by
          rcases Nat.lt_or_ge i 9 with h | h
          · exact h
          · have := h9 (by omega); omega
        have hnv : v + (n % 128) * 2 ^ (7 * i) < 2 ^ (7 * (i + 1)) := by
          rw [show 7 * (i + 1) = 7 + 7 * i by omega, Nat.pow_add]
          have h2 : (n % 128) * 2 ^ (7 * i) ≤ 127 * 2 ^ (7 * i) := Nat.mul_le_mul_right _ (by omega)
          generalize 2 ^ (7 * i) = q at *
          omega
        have ih := uv_l b hb d (i + 1) (v + (n % 128) * 2 ^ (7 * i)) (by omega) (by omega) hnv
        have e2 : ∀ k, D.bitio_Uvarint.j1 (k + 1) (v : Int) (i : Int) (n : Int) (ints b) (b.length : Int) (i : Int) false = D.bitio_Uvarint.l0 k ((v + (n % 128) * 2 ^ (7 * i) : Nat) : Int) (ints b) (b.length : Int) ((i + 1 : Nat) : Int) := fun k => by
          rw [D.bitio_Uvarint.j1, if_neg (by decide), H7.out, if_pos h70, if_neg (show ¬ (n : Int) < 128 by omega), HAND.out, HV2.out, HW1.out]
        rw [funext e2]
        exact ih
theorem uv_ev (b : List UInt8) (hb : b.length < 1000000000) : ∃ k, D.bitio_Uvarint.f k (ints b) = some (res3 (tkU b 0 0)) := by
  refine Ev.rounds (g := fun k => D.bitio_Uvarint.f k (ints b)) ?_
  unfold D.bitio_Uvarint.f
  have h := uv_l b hb b.length 0 0 (by omega) (by omega) (by decide)
  rw [ints_len]
  exact h
theorem tk_l (b : List UInt8) (hb : b.length < 1000000000) : ∀ (d i v : Nat), i + d = b.length → i ≤ 9 → v < 2 ^ (7 * i) →
    Ev (fun k => D.corporaref02_Take.l0 k (v : Int) (ints b) (b.length : Int) (i : Int)) (res3 (tkU (b.drop i) i v))
  | 0, i, v, hd, hi, hv => by
    obtain rfl : i = b.length := by omega
    refine Ev0.Ev_next ?_
    have c : ¬ ((b.length : Int) < (b.length : Int)) := by omega
    have e : ∀ k, D.corporaref02_Take.l0 (k + 1) (v : Int) (ints b) (b.length : Int) (b.length : Int) = some (res3 (tkU (b.drop b.length) b.length v)) := fun k => by
      rw [D.corporaref02_Take.l0, if_neg c, List.drop_length]; rfl
    rw [funext e]
    exact Ev.now _
  | d + 1, i, v, hd, hi, hv => by
    have c1 : (i : Int) < (b.length : Int) := by omega
    have c0 : (0 : Int) ≤ (i : Int) := by omega
    have c2 : (i : Int) < ((ints b).length : Int) := by rw [ints_len]; exact c1
    have hlt : i < b.length := by omega
    obtain ⟨c, hc⟩ : ∃ c, b[i] = c := ⟨_, rfl⟩
    have hdrop : b.drop i = c :: b.drop (i + 1) := by rw [List.drop_eq_getElem_cons hlt, hc]
    have hrd : rd (ints b) (i : Int) = ((c.toNat : Nat) : Int) := by
      rw [Ev0.rd_nat, at_ints, List.getD_eq_getElem?_getD, List.getElem?_eq_getElem hlt, hc]; rfl
    have hcl := c.toNat_lt
    rw [hdrop, tkU]
    obtain ⟨n, hn⟩ : ∃ n, c.toNat = n := ⟨_, rfl⟩
    rw [hn] at hrd hcl ⊢
    have H7 : Hid (RowKit.wrap64 (7 * (i : Int)) = ((7 * i : Nat) : Int)) := Lib.hid (by rw [Ev0.wrap_i64_small (by omega) (by omega)]; omega)
    have h70 : (0 : Int) ≤ ((7 * i : Nat) : Int) := by omega
    have HW1 : Hid (RowKit.wrap64 ((i : Int) + 1) = ((i + 1 : Nat) : Int)) := Lib.hid (Ev0.w1 (by omega))
    have HAND : Hid (IntKind.u64.wrap (Int.tmod (n : Int) 128) = ((n % 128 : Nat) : Int)) := Lib.hid (by
      rw [show Int.tmod (n : Int) 128 = ((n % 128 : Nat) : Int) from rfl]; exact Ev0.wrap_u64_small (by omega))
    have H8 : Hid (IntKind.u64.wrap ((7 * i : Nat) : Int) = ((7 * i : Nat) : Int)) := Lib.hid (Ev0.wrap_u64_small (by omega))
    refine Ev0.Ev_next ?_
    -- the value behind this group
    have HVAL : Hid ((i = 9 → n = 1) → Go.bits .or .u64 (v : Int) (shl .u64 ((n % 128 : Nat) : Int) ((7 * i : Nat) : Int)) = ((v + (n % 128) * 2 ^ (7 * i) : Nat) : Int)) := Lib.hid (fun h9 => by
      refine or_shift v (n % 128) i hv ?_ hi
      rcases Nat.lt_or_ge i 9 with h | h
      · have h1 : 2 ^ (7 * i) ≤ 2 ^ 56 := Nat.pow_le_pow_right (by omega) (by omega)
        have h2 : (n % 128) * 2 ^ (7 * i) ≤ 127 * 2 ^ 56 := Nat.mul_le_mul (by omega) h1
        exact Nat.lt_of_le_of_lt h2 (by decide)
      · obtain rfl : i = 9 := by omega
        rw [h9 rfl]; decide)
    by_cases hbad : i = 9 ∧ n ≠ 1
    · rw [if_pos hbad]
      by_cases hn0 : n = 0
      · have e : ∀ k, D.corporaref02_Take.l0 (k + 1) (v : Int) (ints b) (b.length : Int) (i : Int) = D.corporaref02_Take.j1 k (v : Int) (i : Int) (n : Int) (ints b) (b.length : Int) (i : Int) false := fun k => by
          rw [D.corporaref02_Take.l0, if_pos c1, if_pos c0, if_pos c2, hrd, if_pos (show (i : Int) = 9 by omega), decide_eq_false (show ¬ (n : Int) > 1 by omega)]
        rw [funext e]
        refine Ev0.Ev_next ?_
        have e2 : ∀ k, D.corporaref02_Take.j1 (k + 1) (v : Int) (i : Int) (n : Int) (ints b) (b.length : Int) (i : Int) false = some (res3 (0, 0, 9)) := fun k => by
          rw [D.corporaref02_Take.j1, if_neg (by decide), H7.out, H8.out, if_pos h70, if_pos (show (n : Int) < 128 by omega), if_pos (show (n : Int) = 0 by omega), if_pos (show (i : Int) > 0 by omega)]; rfl
        rw [funext e2]
        exact Ev.now _
      · have e : ∀ k, D.corporaref02_Take.l0 (k + 1) (v : Int) (ints b) (b.length : Int) (i : Int) = D.corporaref02_Take.j1 k (v : Int) (i : Int) (n : Int) (ints b) (b.length : Int) (i : Int) true := fun k => by
          rw [D.corporaref02_Take.l0, if_pos c1, if_pos c0, if_pos c2, hrd, if_pos (show (i : Int) = 9 by omega), decide_eq_true (show (n : Int) > 1 by omega)]
        rw [funext e]
        refine Ev0.Ev_next ?_
        have e2 : ∀ k, D.corporaref02_Take.j1 (k + 1) (v : Int) (i : Int) (n : Int) (ints b) (b.length : Int) (i : Int) true = some (res3 (0, 0, 9)) := fun k => by
          rw [D.corporaref02_Take.j1, if_pos rfl]; rfl
        rw [funext e2]
        exact Ev.now _
    · rw [if_neg hbad]
      have h9 : i = 9 → n = 1 := fun h => by omega
      have e : ∀ k, D.corporaref02_Take.l0 (k + 1) (v : Int) (ints b) (b.length : Int) (i : Int) = D.corporaref02_Take.j1 k (v : Int) (i : Int) (n : Int) (ints b) (b.length : Int) (i : Int) false := fun k => by
        rw [D.corporaref02_Take.l0, if_pos c1, if_pos c0, if_pos c2, hrd]
        by_cases hi9 : i = 9
        · rw [if_pos (show (i : Int) = 9 by omega), decide_eq_false (show ¬ (n : Int) > 1 by have := h9 hi9; omega)]
        · rw [if_neg (show ¬ (i : Int) = 9 by omega)]
      rw [funext e]
      refine Ev0.Ev_next ?_
      have HV2 := Lib.hid (HVAL.out h9)
      by_cases h128 : n < 128
      · rw [if_pos h128]
        have hm : n % 128 = n := Nat.mod_eq_of_lt h128
        have ci : (n : Int) < 128 := by omega
        by_cases hz : n = 0 ∧ 0 < i
        · rw [if_pos hz]
          have e2 : ∀ k, D.corporaref02_Take.j1 (k + 1) (v : Int) (i : Int) (n : Int) (ints b) (b.length : Int) (i : Int) false = some (res3 (0, 0, 9)) := fun k => by
            rw [D.corporaref02_Take.j1, if_neg (by decide), H7.out, H8.out, if_pos h70, if_pos ci, if_pos (show (n : Int) = 0 by omega), if_pos (show (i : Int) > 0 by omega)]; rfl
          rw [funext e2]
          exact Ev.now _
        · rw [if_neg hz]
          have e2 : ∀ k, D.corporaref02_Take.j1 (k + 1) (v : Int) (i : Int) (n : Int) (ints b) (b.length : Int) (i : Int) false = some (res3 (v + n * 2 ^ (7 * i), i + 1, 0)) := fun k => by
            rw [D.corporaref02_Take.j1, if_neg (by decide), H7.out, H8.out, if_pos h70, if_pos ci, HAND.out, HV2.out, HW1.out, hm]
            by_cases hn0 : n = 0
            · rw [if_pos (show (n : Int) = 0 by omega), if_neg (show ¬ (i : Int) > 0 by omega)]; rfl
            · rw [if_neg (show ¬ (n : Int) = 0 by omega)]; rfl
          rw [funext e2]
          exact Ev.now _
      · rw [if_neg h128]
        have hi9 : i < 9 := by
          rcases Nat.lt_or_ge i 9 with h | h
          · exact h
          · have := h9 (by omega); omega
        have hnv : v + (n % 128) * 2 ^ (7 * i) < 2 ^ (7 * (i + 1)) := by
          rw [show 7 * (i + 1) = 7 + 7 * i by omega, Nat.pow_add]
          have h2 : (n % 128) * 2 ^ (7 * i) ≤ 127 * 2 ^ (7 * i) := Nat.mul_le_mul_right _ (by omega)
          generalize 2 ^ (7 * i) = q at *
          omega
        have ih := tk_l b hb d (i + 1) (v + (n % 128) * 2 ^ (7 * i)) (by omega) (by omega) hnv
        have e2 : ∀ k, D.corporaref02_Take.j1 (k + 1) (v : Int) (i : Int) (n : Int) (ints b) (b.length : Int) (i : Int) false = D.corporaref02_Take.l0 k ((v + (n % 128) * 2 ^ (7 * i) : Nat) : Int) (ints b) (b.length : Int) ((i + 1 : Nat) : Int) := fun k => by
          rw [D.corporaref02_Take.j1, if_neg (by decide), H7.out, H8.out, if_pos h70, if_neg (show ¬ (n : Int) < 128 by omega), HAND.out, HV2.out, HW1.out]
        rw [funext e2]
        exact ih
theorem tk_ev (b : List UInt8) (hb : b.length < 1000000000) : ∃ k, D.corporaref02_Take.f k (ints b) = some (res3 (tkU b 0 0)) := by
  refine Ev.rounds (g := fun k => D.corporaref02_Take.f k (ints b)) ?_
  unfold D.corporaref02_Take.f
  have h := tk_l b hb b.length 0 0 (by omega) (by omega) (by decide)
  rw [ints_len]
  exact h
end Go.Proofs.Ytmeojlamadcedaa.Po
