/- lists.Check and its reference tell the same of every list (the pure side of ListsChecks).
   Conditions: none beyond the lengths that the list's weight allows. -/
import Derived.Test.YtmeojlamadcedaaLEw
import Derived.Test.YtmeojlamadcedaaMChecksx1
namespace Go.Proofs.Ytmeojlamadcedaa.Pure
open Go.RowKit Go.Proofs.Ytmeojlamadcedaa.L Go.Proofs.YtmeojlamadcedaaW.PrintWords Go.Proofs.YtmeojlamadcedaaW.PrintLast Go.Proofs.YtmeojlamadcedaaW.PrintMore

theorem ListsChecks : ∀ (l0 : List Int), l0.length * 8 ≤ 140737488351232 → (∀ x ∈ l0, (Lit.int .i64 x).wf = true) → ∃ k, MChecks.corporalaw18_ListsChecks.f k l0 = some true := by
  intro l _ _
  refine Ev.rounds ?_
  unfold MChecks.corporalaw18_ListsChecks.f
  by_cases h : (l.length : Int) > 300
  · simp only [if_pos h]; exact Ev.now _
  · simp only [if_neg h]
    refine Ev.bind (LEv.check l) (Ev.bind (LEv.rcheck l) ?_)
    simp only [if_true]
    exact Ev.bind LEv.awake (Ev.now _)

end Go.Proofs.Ytmeojlamadcedaa.Pure
