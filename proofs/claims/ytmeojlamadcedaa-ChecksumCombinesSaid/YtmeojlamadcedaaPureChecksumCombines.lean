/- The sum of a concatenation follows from the sums and the length of the second part (the pure side of ChecksumCombines).
   Conditions: none beyond the lengths that the arguments' weights allow. -/
import Derived.Test.YtmeojlamadcedaaCkWf
import Derived.Test.YtmeojlamadcedaaLEv
import Derived.Test.YtmeojlamadcedaaMCCombinesx1
namespace Go.Proofs.Ytmeojlamadcedaa.Pure
open Go.RowKit Go.Proofs.Ytmeojlamadcedaa.Given Go.Proofs.Ytmeojlamadcedaa.LEv Go.Proofs.YtmeojlamadcedaaW.PrintWords Go.Proofs.YtmeojlamadcedaaW.PrintLast Go.Proofs.YtmeojlamadcedaaW.PrintMore

theorem combines_no (a b : List Int) (ha : Byt a) (hb : Byt b) (h1 : a.length ≤ 1000) (h2 : b.length ≤ 1000) : Ev (fun k => MCCombines.corporalaw03_ChecksumCombines.j0 k a b false) true := by
  refine Ev_next ?_
  have e1 : Ck.sts (8 * b.length) (Ck.sum (u8s a)) ^^^ Ck.sum (u8s b) = Ck.sum (u8s (a ++ b)) := by
    rw [u8s_append, Ck.sum_append, u8s_len]
  have c1 : ([] : List Int).length + a.length < 140737488355328 := by rw [List.length_nil]; omega
  have c2 : (([] : List Int) ++ a).length + b.length < 140737488355328 := by rw [List.nil_append]; omega
  have hs : checksum_Sum.f (([] : List Int) ++ a ++ b) = some ((Ck.sum (u8s (a ++ b)) : Nat) : Int) := by
    rw [List.nil_append]; exact sum_ok (byt_append ha hb) (by rw [List.length_append]; omega)
  have key : ∀ k, MCCombines.corporalaw03_ChecksumCombines.j0 (k + 1) a b false = some true := fun k => by
    rw [MCCombines.corporalaw03_ChecksumCombines.j0, if_neg (by decide), if_pos c1, Option.bind_some, if_pos c2, sum_ok ha (by omega), Option.bind_some, sum_ok hb (by omega), Option.bind_some,
      combine_ok (Ck.sum_lt _) (Ck.sum_lt _) (show b.length < 1000000000000 by omega), Option.bind_some, hs, Option.bind_some, e1, if_pos rfl]
    rfl
  simp only [key]
  exact Ev.now _
theorem combines_yes (a b : List Int) : Ev (fun k => MCCombines.corporalaw03_ChecksumCombines.j0 k a b true) true := by
  refine Ev_next ?_
  simp only [MCCombines.corporalaw03_ChecksumCombines.j0, if_true]
  exact Ev.now _
theorem ChecksumCombines : ∀ (l0 : List Int) (l1 : List Int), l0.length * 1 ≤ 140737488351232 → (∀ x ∈ l0, (Lit.int .u8 x).wf = true) → l1.length * 1 ≤ 140737488351232 → (∀ x ∈ l1, (Lit.int .u8 x).wf = true) → ∃ k, MCCombines.corporalaw03_ChecksumCombines.f k l0 l1 = some true := by
  intro a b _ hwa _ hwb
  refine Ev.rounds ?_
  unfold MCCombines.corporalaw03_ChecksumCombines.f
  by_cases h : (a.length : Int) > 1000
  · simp only [if_pos h]; exact combines_yes a b
  · simp only [if_neg h]
    by_cases h2 : (b.length : Int) > 1000
    · rw [decide_eq_true h2]; exact combines_yes a b
    · rw [decide_eq_false h2]; exact combines_no a b (byt_of hwa) (byt_of hwb) (by omega) (by omega)

end Go.Proofs.Ytmeojlamadcedaa.Pure
