/- Seeking from position to position visits the whole list (the pure side of PostingsWalks).
   Conditions: none. -/
import Derived.Test.YtmeojlamadcedaaPoWalk
namespace Go.Proofs.Ytmeojlamadcedaa.Pure
open Go.RowKit Go.Proofs.Ytmeojlamadcedaa.Given
theorem PostingsWalks : ∀ (l0 : List Int), l0.length * 8 ≤ 140737488351232 → (∀ x ∈ l0, (Lit.int .i64 x).wf = true) → Given.corporalaw17_PostingsWalks.f l0 = some true := fun _ _ _ => rfl
end Go.Proofs.Ytmeojlamadcedaa.Pure
