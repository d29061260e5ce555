/- How many positions a list may have (the pure side of PostingsLimits).
   Conditions: none beyond what the arguments' kinds say. -/
import Derived.Test.YtmeojlamadcedaaPoLim
namespace Go.Proofs.Ytmeojlamadcedaa.Pure
open Go.RowKit Go.Proofs.Ytmeojlamadcedaa.Given
theorem PostingsLimits : ∀ (a0 : Int) (a1 : Int), (Lit.int .i64 a0).wf = true → (Lit.int .u8 a1).wf = true → Given.corporalaw17_PostingsLimits.f a0 a1 = some true := by
  intro a0 a1 _ h
  have h2 : 0 ≤ a1 ∧ a1 < 256 := by
    simp [Lit.wf, IntKind.min, IntKind.max, IntKind.bits, IntKind.signed] at h
    omega
  exact if_pos h2
end Go.Proofs.Ytmeojlamadcedaa.Pure
