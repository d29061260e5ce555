/- A sealed string in which some of 32 consecutive bits are exchanged is refused (the pure side of ChecksumBursts).
   Conditions: none beyond the lengths that the arguments' weights allow. -/
import Derived.Test.YtmeojlamadcedaaCkWf
import Derived.Test.YtmeojlamadcedaaEv0
import Derived.Test.YtmeojlamadcedaaMCBurstsx1
namespace Go.Proofs.Ytmeojlamadcedaa.Pure
open Go.RowKit Go.Proofs.Ytmeojlamadcedaa.Given Go.Proofs.Ytmeojlamadcedaa.Ev0 Go.Proofs.YtmeojlamadcedaaW.PrintWords Go.Proofs.YtmeojlamadcedaaW.PrintLast Go.Proofs.YtmeojlamadcedaaW.PrintMore

theorem bit_test (v i : Nat) (hv : v < 2 ^ 32) (hi : i < 32) : Go.bits .and .u32 (shr .u32 (v : Int) (i : Int)) 1 = ((v / 2 ^ i % 2 : Nat) : Int) := by
  have e : shr .u32 (v : Int) (i : Int) = ((v / 2 ^ i : Nat) : Int) := by
    unfold shr
    rw [Int.toNat_natCast, Nat.min_eq_left (show i ≤ IntKind.u32.bits from Nat.le_of_lt hi), Int.natCast_ediv, Int.natCast_pow]; rfl
  rw [e]
  exact and_one (Nat.lt_of_le_of_lt (Nat.div_le_self _ _) hv)
theorem shl_one (r : Nat) (hr : r < 8) : shl .u8 1 (r : Int) = (((2 : Nat) ^ r : Nat) : Int) := by
  unfold shl
  have : r = 0 ∨ r = 1 ∨ r = 2 ∨ r = 3 ∨ r = 4 ∨ r = 5 ∨ r = 6 ∨ r = 7 := by omega
  rcases this with rfl | rfl | rfl | rfl | rfl | rfl | rfl | rfl <;> decide
theorem flip_ints (B : List UInt8) (k : Nat) :
    (ints B).set (k / 8) (Go.bits .xor .u8 ((ints B).getD (k / 8) 0) ((2 ^ (k % 8) : Nat) : Int)) = ints (Ck.flip B k) := by
  have hp : 2 ^ (k % 8) < 2 ^ 8 := Nat.pow_lt_pow_right (by omega) (Nat.mod_lt _ (by omega))
  have hx := (B.getD (k / 8) 0).toNat_lt
  rw [at_ints, u8_xor_nat _ _ (by omega) (by omega)]
  unfold Ck.flip ints
  rw [List.map_set, UInt8.toNat_xor, UInt8.toNat_ofNat', Nat.mod_eq_of_lt hp]

theorem mod_stays (v i : Nat) (h : v % 2 ^ i ≠ 0) : v % 2 ^ (i + 1) ≠ 0 := by
  intro h2
  apply h
  have : v % 2 ^ (i + 1) % 2 ^ i = v % 2 ^ i := Nat.mod_mod_of_dvd _ (Nat.pow_dvd_pow 2 (by omega))
  rw [← this, h2, Nat.zero_mod]

section
variable (A : List UInt8) (at_ v : Nat) (hA : Ck.Good A) (hn : A.length ≤ 1004) (hat : at_ < 8 * A.length) (hv : v < 2 ^ 32)
include hA hn hat hv

theorem bursts_end (B : List UInt8) (i x8 : Nat) (hB : B.length = A.length) (hx : x8 ≠ 0 → v % 2 ^ i ≠ 0) (e : Ck.num B = Ck.num A ^^^ (v % 2 ^ i * 2 ^ at_)) :
    Ev (fun k => MCBursts.corporalaw03_ChecksumBursts.j2 k (at_ : Int) (v : Int) (ints B) (x8 : Int) (i : Int) false) true := by
  refine Ev_next ?_
  by_cases h0 : x8 = 0
  · subst h0
    simp only [MCBursts.corporalaw03_ChecksumBursts.j2, Bool.false_eq_true, if_false, Int.natCast_zero, if_true, corporalaw03_awake.f, Option.bind_some]
    exact Ev.now _
  · have hm : v % 2 ^ i < 2 ^ 32 := Nat.lt_of_le_of_lt (Nat.mod_le _ _) hv
    have hbad := Ck.burst hA hB (v % 2 ^ i) at_ hm (hx h0) (by omega) e
    have hx8 : ¬ ((x8 : Int) = 0) := by omega
    have hl4 : ¬ ((ints B).length < 4) := by rw [ints_len, hB]; have := hA.1; omega
    have hu : checksum_Unseal.f (ints B) = some ([], 9) := by
      have c1 : Byt (ints B) ∧ (ints B).length < 1000000000000 := ⟨byt_ints _, by rw [ints_len]; omega⟩
      have c3 : ¬ (Ck.le4 (Ck.sum ((u8s (ints B)).take ((ints B).length - 4))) = (u8s (ints B)).drop ((ints B).length - 4)) := by
        rw [u8s_ints, ints_len]
        exact fun h => hbad ⟨by rw [hB]; exact hA.1, h⟩
      unfold checksum_Unseal.f
      rw [if_pos c1, if_neg hl4, if_neg c3]
    simp only [MCBursts.corporalaw03_ChecksumBursts.j2, Bool.false_eq_true, if_false, if_neg hx8, hu, Option.bind_some, if_true, corporalaw03_awake.f]
    exact Ev.now _

theorem bursts_l : ∀ (d i : Nat) (B : List UInt8) (x8 : Nat), i + d = 32 → B.length = A.length → x8 ≤ i → (x8 ≠ 0 → v % 2 ^ i ≠ 0) → Ck.num B = Ck.num A ^^^ (v % 2 ^ i * 2 ^ at_) →
    Ev (fun k => MCBursts.corporalaw03_ChecksumBursts.l0 k (at_ : Int) (v : Int) (ints B) (x8 : Int) (i : Int)) true
  | 0, i, B, x8, hd, hB, _, hx, e => by
    refine Ev_next ?_
    obtain rfl : i = 32 := by omega
    have c1 : ¬ (((32 : Nat) : Int) < 32) := by omega
    simp only [MCBursts.corporalaw03_ChecksumBursts.l0, if_neg c1]
    exact bursts_end A at_ v hA hn hat hv B 32 x8 hB hx e
  | d + 1, i, B, x8, hd, hB, hxi, hx, e => by
    refine Ev_next ?_
    have c1 : (i : Int) < 32 := by omega
    have e1 : wrap64 ((at_ : Int) + (i : Int)) = ((at_ + i : Nat) : Int) := by rw [wrap_i64_small (by omega) (by omega)]; omega
    have e2 : wrap64 (8 * ((ints B).length : Int)) = ((8 * A.length : Nat) : Int) := by rw [ints_len, hB, wrap_i64_small (by omega) (by omega)]; omega
    simp only [MCBursts.corporalaw03_ChecksumBursts.l0, if_pos c1, e1, e2]
    by_cases hlt : at_ + i < 8 * A.length
    · rw [decide_eq_true (show (((at_ + i : Nat) : Int) < ((8 * A.length : Nat) : Int)) by omega)]
      refine Ev_next ?_
      have hu := wrap_u64_small (i := i) (by omega)
      have c0 : (0 : Int) ≤ (i : Int) := by omega
      have hb := bit_test v i hv (by omega)
      by_cases hbit : v / 2 ^ i % 2 = 1
      · rw [hbit] at hb
        have e3 : wrap64 (Int.tdiv ((at_ + i : Nat) : Int) 8) = (((at_ + i) / 8 : Nat) : Int) := by
          rw [show Int.tdiv ((at_ + i : Nat) : Int) 8 = (((at_ + i) / 8 : Nat) : Int) from rfl, wrap_i64_small (by omega) (by omega)]
        have e4 : IntKind.u64.wrap (Int.tmod ((at_ + i : Nat) : Int) 8) = (((at_ + i) % 8 : Nat) : Int) := by
          rw [show Int.tmod ((at_ + i : Nat) : Int) 8 = (((at_ + i) % 8 : Nat) : Int) from rfl, wrap_u64_small (by omega)]
        have c2 : (0 : Int) ≤ (((at_ + i) / 8 : Nat) : Int) := by omega
        have c3 : (((at_ + i) / 8 : Nat) : Int) < ((ints B).length : Int) := by rw [ints_len, hB]; omega
        have c4 : (0 : Int) ≤ (((at_ + i) % 8 : Nat) : Int) := by omega
        have e5 := shl_one ((at_ + i) % 8) (by omega)
        have e6 := flip_ints B (at_ + i)
        have ih := bursts_l d (i + 1) (Ck.flip B (at_ + i)) (x8 + 1) (by omega) (by rw [Ck.flip_length, hB]) (by omega) (fun _ => Ck.mod_pow_succ_one v i hbit) (Ck.num_flip_burst A B v at_ i hB hlt e hbit)
        have hone : (1 : Int) = ((1 : Nat) : Int) := rfl
        rw [← hone] at hb
        simp only [MCBursts.corporalaw03_ChecksumBursts.j2, if_true, hu, if_pos c0, hb, e1, e3, e4, if_pos c2, if_pos c3, if_pos c4, e5, rd_nat, Int.toNat_natCast, e6, w1 (show x8 < 1099511627776 by omega), w1 (show i < 1099511627776 by omega)]
        exact ih
      · have hb0 : v / 2 ^ i % 2 = 0 := by omega
        rw [hb0] at hb
        have ih := bursts_l d (i + 1) B x8 (by omega) hB (by omega) (fun h => mod_stays v i (hx h)) (by rw [Ck.mod_pow_succ_zero v i hb0]; exact e)
        have hne : ¬ (((0 : Nat) : Int) = 1) := by omega
        simp only [MCBursts.corporalaw03_ChecksumBursts.j2, if_true, hu, if_pos c0, hb, if_neg hne, w1 (show i < 1099511627776 by omega)]
        exact ih
    · rw [decide_eq_false (show ¬ (((at_ + i : Nat) : Int) < ((8 * A.length : Nat) : Int)) by omega)]
      exact bursts_end A at_ v hA hn hat hv B i x8 hB hx e
end

theorem bursts_yes (a : List Int) (x y : Int) : Ev (fun k => MCBursts.corporalaw03_ChecksumBursts.j0 k a x y true) true := by
  refine Ev_next ?_
  simp only [MCBursts.corporalaw03_ChecksumBursts.j0, if_true]
  exact Ev.now _
theorem bursts_no (a : List Int) (ha : Byt a) (hl : a.length ≤ 1000) (at_ v : Nat) (hat : at_ < 8 * a.length + 32) (hv : v < 2 ^ 32) : Ev (fun k => MCBursts.corporalaw03_ChecksumBursts.j0 k a (at_ : Int) (v : Int) false) true := by
  refine Ev_next ?_
  have hs := seal_ok ha (show a.length < 1000000000000 by omega)
  have hlen : (ints (Ck.shutIt (u8s a))).length = a.length + 4 := by rw [ints_len, Ck.shut_length, u8s_len]
  have c : ((ints (Ck.shutIt (u8s a))).length : Int) = wrap64 ((a.length : Int) + 4) := by rw [hlen, wrap_i64_small (by omega) (by omega)]; omega
  have hSl : (Ck.shutIt (u8s a)).length = a.length + 4 := by rw [Ck.shut_length, u8s_len]
  have h := bursts_l (Ck.shutIt (u8s a)) at_ v (Ck.shut_good _) (by omega) (by omega) hv 32 0 (Ck.shutIt (u8s a)) 0 (by omega) rfl (by omega) (fun h => absurd rfl h) (by rw [Nat.pow_zero, Nat.mod_one, Nat.zero_mul, Nat.xor_zero])
  rw [Int.natCast_zero] at h
  generalize ints (Ck.shutIt (u8s a)) = X at *
  have e : ∀ k, MCBursts.corporalaw03_ChecksumBursts.j0 (k + 1) a (at_ : Int) (v : Int) false = MCBursts.corporalaw03_ChecksumBursts.l0 k (at_ : Int) (v : Int) X 0 0 := fun k => by
    rw [MCBursts.corporalaw03_ChecksumBursts.j0, if_neg (by decide), hs, Option.bind_some, if_pos c]
  rw [funext e]
  exact h

theorem ChecksumBursts : ∀ (l0 : List Int) (a1 : Int) (a2 : Int), l0.length * 1 ≤ 140737488351232 → (∀ x ∈ l0, (Lit.int .u8 x).wf = true) → (Lit.int .i64 a1).wf = true → (Lit.int .u32 a2).wf = true → ∃ k, MCBursts.corporalaw03_ChecksumBursts.f k l0 a1 a2 = some true := by
  intro a x y _ ha _ hy
  refine Ev.rounds ?_
  unfold MCBursts.corporalaw03_ChecksumBursts.f
  by_cases h : (a.length : Int) > 1000
  · simp only [if_pos h]; exact bursts_yes a x y
  · simp only [if_neg h]
    by_cases h1 : y = 0
    · simp only [if_pos h1]; exact bursts_yes a x y
    · simp only [if_neg h1]
      by_cases h2 : x < 0
      · simp only [if_pos h2]; exact bursts_yes a x y
      · simp only [if_neg h2]
        have e : wrap64 (wrap64 (8 * (a.length : Int)) + 32) = ((8 * a.length + 32 : Nat) : Int) := by
          rw [wrap_i64_small (i := 8 * (a.length : Int)) (by omega) (by omega), wrap_i64_small (by omega) (by omega)]; omega
        rw [e]
        by_cases h3 : x ≥ ((8 * a.length + 32 : Nat) : Int)
        · rw [decide_eq_true h3]; exact bursts_yes a x y
        · rw [decide_eq_false h3]
          have hyu := u32_of hy
          obtain ⟨hy0, hy1⟩ := hyu
          have hr := bursts_no a (byt_of ha) (by omega) x.toNat y.toNat (by omega) (by omega)
          rw [Int.toNat_of_nonneg (by omega), Int.toNat_of_nonneg hy0] at hr
          exact hr

end Go.Proofs.Ytmeojlamadcedaa.Pure
