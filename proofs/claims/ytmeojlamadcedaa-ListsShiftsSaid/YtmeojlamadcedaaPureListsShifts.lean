/- lists.Shift and its reference tell the same of a short list (the pure side of ListsShifts).
   Conditions: none beyond the lengths that the arguments' weights allow. -/
import Derived.Test.YtmeojlamadcedaaLEy
import Derived.Test.YtmeojlamadcedaaMShiftsx1
namespace Go.Proofs.Ytmeojlamadcedaa.Pure
open Go.RowKit Go.Proofs.Ytmeojlamadcedaa.L Go.Proofs.Ytmeojlamadcedaa.L2 Go.Proofs.Ytmeojlamadcedaa.LEv Go.Proofs.YtmeojlamadcedaaW.PrintWords Go.Proofs.YtmeojlamadcedaaW.PrintLast Go.Proofs.YtmeojlamadcedaaW.PrintMore

theorem ListsShifts : ∀ (l0 : List Int) (a1 : Int) (a2 : Int), l0.length * 8 ≤ 140737488351232 → (∀ x ∈ l0, (Lit.int .i64 x).wf = true) → (Lit.int .i64 a1).wf = true → (Lit.int .i64 a2).wf = true → ∃ k, MShifts.corporalaw18_ListsShifts.f k l0 a1 a2 = some true := by
  intro l b m _ _ _ _
  refine Ev.rounds ?_
  unfold MShifts.corporalaw18_ListsShifts.f
  refine Ev.bind (long [l] (by simp)) ?_
  cases hl : longS [l] with
  | true => simp only [if_true]; exact Ev.now _
  | false =>
    obtain ⟨h1, _⟩ := longS_false hl
    have hll : l.length ≤ 100 := h1 l (by simp)
    simp only [Bool.false_eq_true, if_false]
    refine Ev.bind (shift l b m) (Ev.bind (rshift l b m) ?_)
    have hlen : (shiftS l b m).1.length < 1099511627776 := by
      unfold shiftS
      split
      · split
        · simp
        · have := List.length_filter_le (fun y => decide (0 ≤ y ∧ y < m)) (l.map (· + b))
          rw [List.length_map] at this
          show (shifted l b m).length < _
          unfold shifted
          omega
      · simp
    refine Ev.bind (same _ _ hlen) ?_
    simp only [decide_true, if_true]
    exact Ev.bind LEv.awake (Ev.now _)

end Go.Proofs.Ytmeojlamadcedaa.Pure
