/- Every position of a list by its index (the pure side of PostingsReads).
   Conditions: none. -/
import Derived.Test.YtmeojlamadcedaaPoReads
namespace Go.Proofs.Ytmeojlamadcedaa.Pure
open Go.RowKit Go.Proofs.Ytmeojlamadcedaa.Given
theorem PostingsReads : ∀ (l0 : List Int) (a1 : Int), l0.length * 8 ≤ 140737488351232 → (∀ x ∈ l0, (Lit.int .i64 x).wf = true) → (Lit.int .i64 a1).wf = true → Given.corporalaw17_PostingsReads.f l0 a1 = some true := fun _ _ _ _ _ => rfl
end Go.Proofs.Ytmeojlamadcedaa.Pure
