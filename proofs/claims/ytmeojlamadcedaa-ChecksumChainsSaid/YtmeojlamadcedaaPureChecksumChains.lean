/- Three parts may be combined from either end (the pure side of ChecksumChains).
   Conditions: none beyond the fields' kinds. -/
import Derived.Test.YtmeojlamadcedaaCkWf
import Derived.Test.YtmeojlamadcedaaMCChainsx1
namespace Go.Proofs.Ytmeojlamadcedaa.Pure
open Go.RowKit Go.Proofs.Ytmeojlamadcedaa.Given Go.Proofs.YtmeojlamadcedaaW.PrintWords Go.Proofs.YtmeojlamadcedaaW.PrintLast Go.Proofs.YtmeojlamadcedaaW.PrintMore

theorem u8_of {x : Int} (h : (Lit.int .u8 x).wf = true) : 0 ≤ x ∧ x < 256 := by
  simp [Lit.wf, IntKind.min, IntKind.max, IntKind.bits, IntKind.signed] at h
  omega
theorem small64 {n : Nat} (h : n < 1000) : wrap64 (n : Int) = (n : Int) := by unfold wrap64; omega

theorem ChecksumChains : ∀ (a0_0 : Int) (a0_1 : Int) (a0_2 : Int) (a0_3 : Int) (a0_4 : Int), (Lit.int .u32 a0_0).wf = true → (Lit.int .u32 a0_1).wf = true → (Lit.int .u32 a0_2).wf = true → (Lit.int .u8 a0_3).wf = true → (Lit.int .u8 a0_4).wf = true → MCChains.corporalaw03_ChecksumChains.f a0_0 a0_1 a0_2 a0_3 a0_4 = some true := by
  intro x y z i j hx hy hz hi hj
  have ux := u32_of hx
  have uy := u32_of hy
  have uz := u32_of hz
  have ui := u8_of hi
  have uj := u8_of hj
  obtain ⟨x, rfl⟩ := Int.eq_ofNat_of_zero_le ux.1
  obtain ⟨y, rfl⟩ := Int.eq_ofNat_of_zero_le uy.1
  obtain ⟨z, rfl⟩ := Int.eq_ofNat_of_zero_le uz.1
  obtain ⟨i, rfl⟩ := Int.eq_ofNat_of_zero_le ui.1
  obtain ⟨j, rfl⟩ := Int.eq_ofNat_of_zero_le uj.1
  have hx32 : x < 2 ^ 32 := by have := ux.2; omega
  have hy32 : y < 2 ^ 32 := by have := uy.2; omega
  have hz32 : z < 2 ^ 32 := by have := uz.2; omega
  have hi8 : i < 256 := by omega
  have hj8 : j < 256 := by omega
  have e : wrap64 (((i : Nat) : Int) + ((j : Nat) : Int)) = ((i + j : Nat) : Int) := by unfold wrap64; omega
  have l1 : Ck.sts (8 * i) x ^^^ y < 2 ^ 32 := Nat.xor_lt_two_pow (Ck.sts_lt _ _ hx32) hy32
  have l2 : Ck.sts (8 * j) y ^^^ z < 2 ^ 32 := Nat.xor_lt_two_pow (Ck.sts_lt _ _ hy32) hz32
  unfold MCChains.corporalaw03_ChecksumChains.f
  rw [small64 (show i < 1000 by omega), small64 (show j < 1000 by omega), e, combine_ok hx32 hy32 (by omega), Option.bind_some, combine_ok l1 hz32 (by omega), Option.bind_some, combine_ok hy32 hz32 (by omega), Option.bind_some,
    combine_ok hx32 l2 (by omega), Option.bind_some, Ck.chains, if_pos rfl]
  rfl

end Go.Proofs.Ytmeojlamadcedaa.Pure
