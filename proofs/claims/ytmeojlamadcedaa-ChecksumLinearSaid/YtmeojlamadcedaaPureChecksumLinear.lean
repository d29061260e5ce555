/- The sum of the exclusive or of three strings is the exclusive or of their sums (the pure side of ChecksumLinear).
   Conditions: none beyond the lengths that the arguments' weights allow. -/
import Derived.Test.YtmeojlamadcedaaCkWf
import Derived.Test.YtmeojlamadcedaaLEv
import Derived.Test.YtmeojlamadcedaaMCLinearx1
namespace Go.Proofs.Ytmeojlamadcedaa.Pure
open Go.RowKit Go.Proofs.Ytmeojlamadcedaa.Given Go.Proofs.Ytmeojlamadcedaa.LEv Go.Proofs.YtmeojlamadcedaaW.PrintWords Go.Proofs.YtmeojlamadcedaaW.PrintLast Go.Proofs.YtmeojlamadcedaaW.PrintMore

theorem set_fill (T : List Int) (i n : Nat) (hT : T.length = n) (hi : i < n) :
    (T.take i ++ List.replicate (n - i) 0).set i (T.getD i 0) = T.take (i + 1) ++ List.replicate (n - (i + 1)) 0 := by
  have hl : (T.take i).length = i := by rw [List.length_take]; omega
  have e : T.take (i + 1) = T.take i ++ [T.getD i 0] := by
    rw [List.take_add_one, List.getD_eq_getElem?_getD, List.getElem?_eq_getElem (by omega)]; rfl
  rw [List.set_append_right _ _ (by omega), hl, Nat.sub_self, show n - i = (n - (i + 1)) + 1 by omega, List.replicate_succ, List.set_cons_zero, e, List.append_assoc]
  rfl
theorem fill_len (T : List Int) (i n : Nat) (hT : T.length = n) (hi : i ≤ n) : (T.take i ++ List.replicate (n - i) (0 : Int)).length = n := by
  rw [List.length_append, List.length_take, List.length_replicate]; omega

theorem xor3_len : ∀ (a b c : List UInt8), a.length = b.length → b.length = c.length → (Ck.xor3 a b c).length = a.length
  | [], [], [], _, _ => rfl
  | _ :: a, _ :: b, _ :: c, h1, h2 => by
    rw [Ck.xor3, List.length_cons, List.length_cons, xor3_len a b c (by simpa using h1) (by simpa using h2)]
theorem xor3_at : ∀ (a b c : List UInt8) (i : Nat), a.length = b.length → b.length = c.length → (Ck.xor3 a b c).getD i 0 = a.getD i 0 ^^^ b.getD i 0 ^^^ c.getD i 0
  | [], [], [], i, _, _ => by simp [Ck.xor3]
  | x :: a, y :: b, z :: c, 0, _, _ => rfl
  | x :: a, y :: b, z :: c, i + 1, h1, h2 => by
    rw [Ck.xor3, List.getD_cons_succ, List.getD_cons_succ, List.getD_cons_succ, List.getD_cons_succ]
    exact xor3_at a b c i (by simpa using h1) (by simpa using h2)
theorem xor3_bits (x y z : UInt8) : Go.bits .xor .u8 (Go.bits .xor .u8 ((x.toNat : Nat) : Int) ((y.toNat : Nat) : Int)) ((z.toNat : Nat) : Int) = (((x ^^^ y ^^^ z).toNat : Nat) : Int) := by
  have hx := x.toNat_lt
  have hy := y.toNat_lt
  have hz := z.toNat_lt
  rw [u8_xor_nat _ _ (by omega) (by omega), u8_xor_nat _ _ (Nat.xor_lt_two_pow (n := 8) (by omega) (by omega)) (by omega), UInt8.toNat_xor, UInt8.toNat_xor]

section
variable (A B C : List UInt8) (h1 : A.length = B.length) (h2 : B.length = C.length) (hn : A.length ≤ 1000)
include h1 h2 hn

theorem lin_l : ∀ (d i : Nat), i + d = A.length →
    Ev (fun k => MCLinear.corporalaw03_ChecksumLinear.l0 k (ints A) (ints B) (ints C) ((ints (Ck.xor3 A B C)).take i ++ List.replicate (A.length - i) 0) (A.length : Int) (i : Int)) true
  | 0, i, h => by
    refine Ev_next ?_
    obtain rfl : i = A.length := by omega
    have c1 : ¬ ((A.length : Int) < (A.length : Int)) := by omega
    have hl := xor3_len A B C h1 h2
    have ex : (ints (Ck.xor3 A B C)).take A.length ++ List.replicate (A.length - A.length) 0 = ints (Ck.xor3 A B C) := by
      rw [Nat.sub_self, List.replicate_zero, List.append_nil, List.take_of_length_le (by rw [ints_len, hl]; exact Nat.le_refl _)]
    have s1 : checksum_Sum.f (ints (Ck.xor3 A B C)) = some ((Ck.sum A ^^^ Ck.sum B ^^^ Ck.sum C : Nat) : Int) := by
      rw [sum_ok (byt_ints _) (by rw [ints_len, hl]; omega), u8s_ints, Ck.sum_xor3 A B C h1 h2]
    have s2 : ∀ l : List UInt8, l.length ≤ 1000 → checksum_Sum.f (ints l) = some ((Ck.sum l : Nat) : Int) := fun l hl => by
      rw [sum_ok (byt_ints _) (by rw [ints_len]; omega), u8s_ints]
    have ebits : Go.bits .xor .u32 (Go.bits .xor .u32 ((Ck.sum A : Nat) : Int) ((Ck.sum B : Nat) : Int)) ((Ck.sum C : Nat) : Int) = ((Ck.sum A ^^^ Ck.sum B ^^^ Ck.sum C : Nat) : Int) := by
      rw [xor_u32 (Ck.sum_lt _) (Ck.sum_lt _), xor_u32 (Nat.xor_lt_two_pow (Ck.sum_lt _) (Ck.sum_lt _)) (Ck.sum_lt _)]
    simp only [MCLinear.corporalaw03_ChecksumLinear.l0, if_neg c1, ex, s1, s2 A hn, s2 B (by omega), s2 C (by omega), Option.bind_some, ebits, if_true, corporalaw03_awake.f]
    exact Ev.now _
  | d + 1, i, h => by
    have ih := lin_l d (i + 1) (by omega)
    have hl := xor3_len A B C h1 h2
    have hlt : i < A.length := by omega
    rw [← set_fill (ints (Ck.xor3 A B C)) i A.length (by rw [ints_len, hl]) hlt] at ih
    have hf := fill_len (ints (Ck.xor3 A B C)) i A.length (by rw [ints_len, hl]) (by omega)
    have e : Go.bits .xor .u8 (Go.bits .xor .u8 (rd (ints A) (i : Int)) (rd (ints B) (i : Int))) (rd (ints C) (i : Int)) = (ints (Ck.xor3 A B C)).getD i 0 := by
      rw [rd_nat, rd_nat, rd_nat, at_ints, at_ints, at_ints, xor3_bits, at_ints, xor3_at A B C i h1 h2]
    generalize (ints (Ck.xor3 A B C)).take i ++ List.replicate (A.length - i) 0 = X at *
    refine Ev_next ?_
    have c1 : (i : Int) < (A.length : Int) := by omega
    have c0 : (0 : Int) ≤ (i : Int) := by omega
    have cA : (i : Int) < ((ints A).length : Int) := by rw [ints_len]; exact c1
    have cB : (i : Int) < ((ints B).length : Int) := by rw [ints_len]; omega
    have cC : (i : Int) < ((ints C).length : Int) := by rw [ints_len]; omega
    have cX : (i : Int) < (X.length : Int) := by rw [hf]; exact c1
    simp only [MCLinear.corporalaw03_ChecksumLinear.l0, if_pos c1, if_pos c0, if_pos cA, if_pos cB, if_pos cC, if_pos cX, e, w1 (show i < 1099511627776 by omega), Int.toNat_natCast]
    exact ih
end

theorem linear_yes (a b c : List Int) : Ev (fun k => MCLinear.corporalaw03_ChecksumLinear.j0 k a b c true) true := by
  refine Ev_next ?_
  simp only [MCLinear.corporalaw03_ChecksumLinear.j0, if_true]
  exact Ev.now _
theorem linear_no (a b c : List Int) (ha : Byt a) (hb : Byt b) (hc : Byt c) (h1 : a.length = b.length) (h2 : b.length = c.length) (hn : a.length ≤ 1000) : Ev (fun k => MCLinear.corporalaw03_ChecksumLinear.j0 k a b c false) true := by
  refine Ev_next ?_
  have h := lin_l (u8s a) (u8s b) (u8s c) (by rw [u8s_len, u8s_len]; exact h1) (by rw [u8s_len, u8s_len]; exact h2) (by rw [u8s_len]; exact hn) a.length 0 (by rw [u8s_len]; omega)
  rw [ints_u8s ha, ints_u8s hb, ints_u8s hc, List.take_zero, List.nil_append, u8s_len, Nat.sub_zero] at h
  have c1 : (0 : Int) ≤ (a.length : Int) := by omega
  have c2 : ((a.length : Int) : Int).toNat ≤ 281474976710656 := by omega
  have e : ((List.replicate ((a.length : Int) : Int).toNat (0 : Int)).length : Int) = (a.length : Int) := by rw [List.length_replicate, Int.toNat_natCast]
  simp only [MCLinear.corporalaw03_ChecksumLinear.j0, Bool.false_eq_true, if_false, if_pos c1, if_pos c2, Option.bind_some, e]
  rw [Int.toNat_natCast]
  exact h

theorem ChecksumLinear : ∀ (l0 : List Int) (l1 : List Int) (l2 : List Int), l0.length * 1 ≤ 140737488351232 → (∀ x ∈ l0, (Lit.int .u8 x).wf = true) → l1.length * 1 ≤ 140737488351232 → (∀ x ∈ l1, (Lit.int .u8 x).wf = true) → l2.length * 1 ≤ 140737488351232 → (∀ x ∈ l2, (Lit.int .u8 x).wf = true) → ∃ k, MCLinear.corporalaw03_ChecksumLinear.f k l0 l1 l2 = some true := by
  intro a b c _ ha _ hb _ hc
  refine Ev.rounds ?_
  unfold MCLinear.corporalaw03_ChecksumLinear.f
  by_cases h : (a.length : Int) > 1000
  · simp only [if_pos h]; exact linear_yes a b c
  · simp only [if_neg h]
    by_cases h1 : (a.length : Int) = (b.length : Int)
    · simp only [if_pos h1]
      by_cases h2 : (b.length : Int) = (c.length : Int)
      · rw [bne_eq_false_iff_eq.mpr h2]; exact linear_no a b c (byt_of ha) (byt_of hb) (byt_of hc) (by omega) (by omega) (by omega)
      · rw [bne_iff_ne.mpr h2]; exact linear_yes a b c
    · simp only [if_neg h1]; exact linear_yes a b c

end Go.Proofs.Ytmeojlamadcedaa.Pure
