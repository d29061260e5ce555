/- Combine is the reference's zero bytes (the pure side of ChecksumCombined).
   Conditions: none beyond the lengths that the arguments' weights allow. -/
import Derived.Test.YtmeojlamadcedaaCkWf
import Derived.Test.YtmeojlamadcedaaLEv
import Derived.Test.YtmeojlamadcedaaMCCombinedx1
namespace Go.Proofs.Ytmeojlamadcedaa.Pure
open Go.RowKit Go.Proofs.Ytmeojlamadcedaa.Given Go.Proofs.Ytmeojlamadcedaa.LEv Go.Proofs.YtmeojlamadcedaaW.PrintWords Go.Proofs.YtmeojlamadcedaaW.PrintLast Go.Proofs.YtmeojlamadcedaaW.PrintMore

theorem rstep_l (v : Nat) (hv : v < 2 ^ 32) : ∀ (d i : Nat), i + d = 8 → Ev (fun k => C.corporaref03_step.l0 k ((Ck.sts i v : Nat) : Int) (i : Int)) ((Ck.sts 8 v : Nat) : Int)
  | 0, i, h => by
    refine Ev_next ?_
    obtain rfl : i = 8 := by omega
    have c1 : ¬ (((8 : Nat) : Int) < 8) := by omega
    simp only [C.corporaref03_step.l0, if_neg c1]
    exact Ev.now _
  | d + 1, i, h => by
    refine Ev_next ?_
    have c1 : (i : Int) < 8 := by omega
    have hvi : Ck.sts i v < 2 ^ 32 := Ck.sts_lt _ _ hv
    have ih := rstep_l v hv d (i + 1) (by omega)
    rw [Ck.sts_succ] at ih
    simp only [C.corporaref03_step.l0, if_pos c1, and_one hvi, w1 (show i < 1099511627776 by omega)]
    by_cases ho : Ck.sts i v % 2 = 1
    · have ho' : ((Ck.sts i v % 2 : Nat) : Int) = 1 := by omega
      simp only [if_pos ho', st_odd hvi ho]
      exact ih
    · have ho' : ¬ ((Ck.sts i v % 2 : Nat) : Int) = 1 := by omega
      simp only [if_neg ho', st_even ho]
      exact ih
theorem rstep (v : Nat) (hv : v < 2 ^ 32) : Ev (fun k => C.corporaref03_step.f k (v : Int)) ((Ck.sts 8 v : Nat) : Int) := by
  unfold C.corporaref03_step.f
  exact rstep_l v hv 8 0 rfl
theorem zeros_l (v n : Nat) (hv : v < 2 ^ 32) (hn : n < 1000000) : ∀ (d i : Nat), i + d = n → Ev (fun k => C.corporaref03_Zeros.l0 k ((Ck.sts (8 * i) v : Nat) : Int) (n : Int) (i : Int)) ((Ck.sts (8 * n) v : Nat) : Int)
  | 0, i, h => by
    refine Ev_next ?_
    obtain rfl : i = n := by omega
    have c1 : ¬ ((i : Int) < (i : Int)) := by omega
    simp only [C.corporaref03_Zeros.l0, if_neg c1]
    exact Ev.now _
  | d + 1, i, h => by
    refine Ev_next ?_
    have c1 : (i : Int) < (n : Int) := by omega
    have ih := zeros_l v n hv hn d (i + 1) (by omega)
    simp only [C.corporaref03_Zeros.l0, if_pos c1, w1 (show i < 1099511627776 by omega)]
    refine Ev.bind (rstep _ (Ck.sts_lt _ _ hv)) ?_
    rw [← Ck.sts_add, show 8 * i + 8 = 8 * (i + 1) by omega]
    exact ih
theorem zeros (v n : Nat) (hv : v < 2 ^ 32) (hn : n < 1000000) : Ev (fun k => C.corporaref03_Zeros.f k (v : Int) (n : Int)) ((Ck.sts (8 * n) v : Nat) : Int) := by
  unfold C.corporaref03_Zeros.f
  exact zeros_l v n hv hn n 0 (by omega)

theorem ChecksumCombined : ∀ (a0 : Int) (a1 : Int) (a2 : Int), (Lit.int .u32 a0).wf = true → (Lit.int .u32 a1).wf = true → (Lit.int .i64 a2).wf = true → ∃ k, MCCombined.corporalaw03_ChecksumCombined.f k a0 a1 a2 = some true := by
  intro x y n hx hy _
  have ux := u32_of hx
  have uy := u32_of hy
  refine Ev.rounds ?_
  unfold MCCombined.corporalaw03_ChecksumCombined.f
  by_cases h : n > 3000
  · simp only [if_pos h]; exact Ev.now _
  · simp only [if_neg h]
    by_cases h0 : n < 0
    · have e : checksum_Combine.f x y n = some 0 := by
        unfold checksum_Combine.f
        rw [if_pos ⟨ux, uy, by omega⟩, if_pos h0]
      simp only [if_pos h0, e, Option.bind_some, if_true, corporalaw03_awake.f]
      exact Ev.now _
    · obtain ⟨x, rfl⟩ := Int.eq_ofNat_of_zero_le ux.1
      obtain ⟨y, rfl⟩ := Int.eq_ofNat_of_zero_le uy.1
      obtain ⟨n, rfl⟩ := Int.eq_ofNat_of_zero_le (show 0 ≤ n by omega)
      have hx32 : x < 2 ^ 32 := by have := ux.2; omega
      have hy32 : y < 2 ^ 32 := by have := uy.2; omega
      simp only [if_neg h0, combine_ok hx32 hy32 (show n < 1000000000000 by omega), Option.bind_some]
      refine Ev.bind (zeros x n hx32 (by omega)) ?_
      rw [xor_u32 (Ck.sts_lt _ _ hx32) hy32]
      simp only [if_true, corporalaw03_awake.f, Option.bind_some]
      exact Ev.now _

end Go.Proofs.Ytmeojlamadcedaa.Pure
