/- Which bytes are the encoding of a list, and of which one (the pure side of PostingsDecodes).
   Conditions: none beyond what the argument's kind says. -/
import Derived.Test.YtmeojlamadcedaaPoMb
namespace Go.Proofs.Ytmeojlamadcedaa.Pure
open Go.RowKit Go.Proofs.Ytmeojlamadcedaa.Given
theorem PostingsDecodes : ∀ (l0 : List Int), l0.length * 1 ≤ 140737488351232 → (∀ x ∈ l0, (Lit.int .u8 x).wf = true) → Given.corporalaw17_PostingsDecodes.f l0 = some true := fun _ _ h => if_pos (byt_of h)
end Go.Proofs.Ytmeojlamadcedaa.Pure
