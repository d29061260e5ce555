/- The encoding of any list, and that it is decoded again (the pure side of PostingsEncodes).
   Conditions: none. -/
import Derived.Test.YtmeojlamadcedaaPoEs
namespace Go.Proofs.Ytmeojlamadcedaa.Pure
open Go.RowKit Go.Proofs.Ytmeojlamadcedaa.Given
theorem PostingsEncodes : ∀ (l0 : List Int) (a1 : Int), l0.length * 8 ≤ 140737488351232 → (∀ x ∈ l0, (Lit.int .i64 x).wf = true) → (Lit.int .i64 a1).wf = true → Given.corporalaw17_PostingsEncodes.f l0 a1 = some true := fun _ _ _ _ _ => rfl
end Go.Proofs.Ytmeojlamadcedaa.Pure
