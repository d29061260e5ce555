/- Union, Intersect and Subtract tell of two short lists what the reference tells (the pure side of ListsCombines).
   Conditions: none beyond the lengths that the arguments' weights allow. -/
import Derived.Test.YtmeojlamadcedaaLEx
import Derived.Test.YtmeojlamadcedaaMCombinesx1
namespace Go.Proofs.Ytmeojlamadcedaa.Pure
open Go.RowKit Go.Proofs.Ytmeojlamadcedaa.L Go.Proofs.Ytmeojlamadcedaa.LEv Go.Proofs.YtmeojlamadcedaaW.PrintWords Go.Proofs.YtmeojlamadcedaaW.PrintLast Go.Proofs.YtmeojlamadcedaaW.PrintMore

theorem ListsCombines : ∀ (l0 : List Int) (l1 : List Int), l0.length * 8 ≤ 140737488351232 → (∀ x ∈ l0, (Lit.int .i64 x).wf = true) → l1.length * 8 ≤ 140737488351232 → (∀ x ∈ l1, (Lit.int .i64 x).wf = true) → ∃ k, MCombines.corporalaw18_ListsCombines.f k l0 l1 = some true := by
  intro a b _ _ _ _
  refine Ev.rounds ?_
  unfold MCombines.corporalaw18_ListsCombines.f
  refine Ev.bind (long [a, b] (by simp)) ?_
  cases hl : longS [a, b] with
  | true => simp only [if_true]; exact Ev.now _
  | false =>
    obtain ⟨h1, h2⟩ := longS_false hl
    have ha : a.length ≤ 100 := h1 a (by simp)
    have hb : b.length ≤ 100 := h1 b (by simp)
    simp only [Bool.false_eq_true, if_false]
    refine Ev.bind (union2 a b) (Ev.bind (rmerge [a, b] (by simp)) (Ev.bind (intersect a b) (Ev.bind (LEv.choose a b true) (Ev.bind (subtract a b) (Ev.bind (LEv.choose a b false) ?_)))))
    rw [mergeS_same [a, b] h1 h2]
    have hlen : (rmergeS [a, b]).1.length < 1099511627776 := by
      rw [← mergeS_same [a, b] h1 h2]
      unfold mergeS
      split
      · rename_i e
        obtain ⟨e1, e2⟩ := merge_same [a, b] [] List.Pairwise.nil (fun l h => ⟨(chk_zero (chkAll_zero e l h)).1, h1 l h⟩) (by simp)
        rw [e1]
        exact Nat.lt_of_le_of_lt e2 (by omega)
      · simp
    have hc : ∀ c, (chooseS a b c).1.length < 1099511627776 := by
      intro c
      unfold chooseS
      split
      · have := List.length_filter_le (fun x => decide (x ∈ b) == c) a
        show (a.filter _).length < _
        omega
      · simp
    refine Ev.bind (same _ _ hlen) ?_
    simp only [decide_true, if_true]
    refine Ev.bind (same _ _ (hc true)) ?_
    simp only [decide_true, if_true]
    refine Ev.bind (same _ _ (hc false)) ?_
    simp only [decide_true, if_true]
    exact Ev.bind awake (Ev.now _)

end Go.Proofs.Ytmeojlamadcedaa.Pure
