/- Which positions have a list, and that the list contains them (the pure side of PostingsBuilds).
   Conditions: none. -/
import Derived.Test.YtmeojlamadcedaaPoBuilds
namespace Go.Proofs.Ytmeojlamadcedaa.Pure
open Go.RowKit Go.Proofs.Ytmeojlamadcedaa.Given
theorem PostingsBuilds : ∀ (l0 : List Int), l0.length * 8 ≤ 140737488351232 → (∀ x ∈ l0, (Lit.int .i64 x).wf = true) → Given.corporalaw17_PostingsBuilds.f l0 = some true := fun _ _ _ => rfl
end Go.Proofs.Ytmeojlamadcedaa.Pure
