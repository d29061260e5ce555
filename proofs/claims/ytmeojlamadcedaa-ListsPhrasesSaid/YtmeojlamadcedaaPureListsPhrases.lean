/- lists.Phrase and its reference tell the same of a few short lists (the pure side of ListsPhrases).
   Conditions: none beyond the lengths that the arguments' weights allow. -/
import Derived.Test.YtmeojlamadcedaaLEp
import Derived.Test.YtmeojlamadcedaaMPhrasesx1
namespace Go.Proofs.Ytmeojlamadcedaa.Pure
open Go.RowKit Go.Proofs.Ytmeojlamadcedaa.L Go.Proofs.Ytmeojlamadcedaa.L2 Go.Proofs.Ytmeojlamadcedaa.LEv Go.Proofs.YtmeojlamadcedaaW.PrintWords Go.Proofs.YtmeojlamadcedaaW.PrintLast Go.Proofs.YtmeojlamadcedaaW.PrintMore

theorem phrases_j (ls : List (List Int)) (os : List Int) (c : Bool) (hc : c = false → ls.length ≤ 12) : Ev (fun k => MPhrases.corporalaw18_ListsPhrases.j0 k ls os c) true := by
  refine Ev_next ?_
  simp only [MPhrases.corporalaw18_ListsPhrases.j0]
  cases c with
  | true => simp only [if_true]; exact Ev.now _
  | false =>
    simp only [Bool.false_eq_true, if_false]
    have h2 := hc rfl
    refine Ev.bind (phrase ls os (by omega)) (Ev.bind (rphrase ls os (by omega)) ?_)
    refine Ev.bind (same _ _ (Nat.lt_of_le_of_lt (phraseS_len ls os) (by omega))) ?_
    simp only [decide_true, if_true]
    exact Ev.bind LEv.awake (Ev.now _)

theorem ListsPhrases : ∀ (l0 : List (List Int)) (l1 : List Int), l0.length * 24 ≤ 140737488351232 → l1.length * 8 ≤ 140737488351232 → (∀ x ∈ l1, (Lit.int .i64 x).wf = true) → ∃ k, MPhrases.corporalaw18_ListsPhrases.f k l0 l1 = some true := by
  intro ls os hn _ _
  refine Ev.rounds ?_
  unfold MPhrases.corporalaw18_ListsPhrases.f
  refine Ev.bind (long ls (by omega)) ?_
  cases hl : longS ls with
  | true => simp only [if_true]; exact phrases_j ls os true (fun h => by cases h)
  | false =>
    obtain ⟨_, h2⟩ := longS_false hl
    simp only [Bool.false_eq_true, if_false]
    exact phrases_j ls os _ (fun _ => h2)

end Go.Proofs.Ytmeojlamadcedaa.Pure
