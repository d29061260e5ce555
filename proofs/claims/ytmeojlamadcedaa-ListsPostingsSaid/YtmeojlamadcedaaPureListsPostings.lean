/- That seeking in turn finds the common elements (the pure side of ListsPostings).
   Conditions: none. -/
import Derived.Test.YtmeojlamadcedaaPoLists
namespace Go.Proofs.Ytmeojlamadcedaa.Pure
open Go.RowKit Go.Proofs.Ytmeojlamadcedaa.Given
theorem ListsPostings : ∀ (l0 : List Int) (l1 : List Int), l0.length * 8 ≤ 140737488351232 → (∀ x ∈ l0, (Lit.int .i64 x).wf = true) → l1.length * 8 ≤ 140737488351232 → (∀ x ∈ l1, (Lit.int .i64 x).wf = true) → Given.corporalaw18_ListsPostings.f l0 l1 = some true := fun _ _ _ _ _ _ => rfl
end Go.Proofs.Ytmeojlamadcedaa.Pure
