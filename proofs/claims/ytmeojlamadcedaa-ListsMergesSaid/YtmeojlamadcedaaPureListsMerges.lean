/- lists.Merge and its reference tell the same of a few short lists (the pure side of ListsMerges).
   Conditions: none beyond the lengths that the arguments' weights allow. -/
import Derived.Test.YtmeojlamadcedaaLEx
import Derived.Test.YtmeojlamadcedaaMMergesx1
namespace Go.Proofs.Ytmeojlamadcedaa.Pure
open Go.RowKit Go.Proofs.Ytmeojlamadcedaa.L Go.Proofs.Ytmeojlamadcedaa.LEv Go.Proofs.YtmeojlamadcedaaW.PrintWords Go.Proofs.YtmeojlamadcedaaW.PrintLast Go.Proofs.YtmeojlamadcedaaW.PrintMore

theorem ListsMerges : ∀ (l0 : List (List Int)), l0.length * 24 ≤ 140737488351232 → ∃ k, MMerges.corporalaw18_ListsMerges.f k l0 = some true := by
  intro ls hn
  refine Ev.rounds ?_
  unfold MMerges.corporalaw18_ListsMerges.f
  refine Ev.bind (long ls (by omega)) ?_
  cases hl : longS ls with
  | true => simp only [if_true]; exact Ev.now _
  | false =>
    obtain ⟨h1, h2⟩ := longS_false hl
    simp only [Bool.false_eq_true, if_false]
    refine Ev.bind (merge ls (by omega)) (Ev.bind (rmerge ls (by omega)) ?_)
    rw [mergeS_same ls h1 h2]
    have hlen : (rmergeS ls).1.length < 1099511627776 := by
      rw [← mergeS_same ls h1 h2]
      unfold mergeS
      split
      · rename_i e
        obtain ⟨e1, e2⟩ := merge_same ls [] List.Pairwise.nil (fun l h => ⟨(chk_zero (chkAll_zero e l h)).1, h1 l h⟩) (by simp; omega)
        rw [e1]
        exact Nat.lt_of_le_of_lt e2 (by omega)
      · simp
    refine Ev.bind (same _ _ hlen) ?_
    simp only [decide_true, if_true]
    exact Ev.bind awake (Ev.now _)

end Go.Proofs.Ytmeojlamadcedaa.Pure
