/- A phrase of two lists is the intersection of the first one and the second one moved back (the pure side of ListsJoins).
   Conditions: none beyond the lengths that the arguments' weights allow. -/
import Derived.Test.YtmeojlamadcedaaLSet
import Derived.Test.YtmeojlamadcedaaLEz
import Derived.Test.YtmeojlamadcedaaMJoinsx1
namespace Go.Proofs.Ytmeojlamadcedaa.Pure
open Go.RowKit Go.Proofs.Ytmeojlamadcedaa.L Go.Proofs.Ytmeojlamadcedaa.L2 Go.Proofs.Ytmeojlamadcedaa.LEv Go.Proofs.YtmeojlamadcedaaW.PrintWords Go.Proofs.YtmeojlamadcedaaW.PrintLast Go.Proofs.YtmeojlamadcedaaW.PrintMore

theorem mem_shifted (l : List Int) (b m z : Int) : z ∈ shifted l b m ↔ (0 ≤ z ∧ z < m) ∧ z - b ∈ l := by
  unfold shifted
  rw [List.mem_filter, List.mem_map]
  constructor
  · rintro ⟨⟨x, hx, rfl⟩, h⟩
    exact ⟨by simpa using h, by rwa [Int.add_sub_cancel]⟩
  · rintro ⟨h1, h2⟩
    exact ⟨⟨z - b, h2, by omega⟩, by simpa using h1⟩
theorem asc_shifted {l : List Int} (b m : Int) (h : Li.Asc l) : Li.Asc (shifted l b m) := by
  unfold shifted
  refine Li.asc_filter _ ?_
  rw [Li.Asc, List.pairwise_map]
  exact h.imp fun hlt => by omega
theorem len_shifted (l : List Int) (b m : Int) : (shifted l b m).length ≤ l.length := by
  unfold shifted
  have := List.length_filter_le (fun y => decide (0 ≤ y ∧ y < m)) (l.map (· + b))
  rwa [List.length_map] at this

section
variable (a b : List Int) (d : Int) (ha : Vl a 100) (hb : Vl b 100) (h0 : 0 ≤ d) (h1 : d ≤ 1000)
include ha hb h0 h1

theorem phrase_ok2 : ∃ p, Ev (fun k => lists_Phrase.f k [a, b] [0, d]) (p, 0) ∧ Vl p 100 ∧ ∀ z, z ∈ p ↔ 0 ≤ z ∧ z ∈ a ∧ z + d ∈ b := by
  have h := phrase [a, b] [0, d] (show 2 < 1099511627776 by omega)
  unfold phraseS at h
  have hbad : badAny [0, d] = false := by
    unfold badAny
    rw [List.any_cons, List.any_cons, List.any_nil, decide_eq_false (by omega), decide_eq_false (by omega)]; rfl
  rw [if_neg (by simp), if_pos (chkAll_ok (by simp [ha.chk, hb.chk])), hbad, if_neg (by simp), phrFrom, phrFrom, phrFrom, if_pos rfl, if_neg (by omega)] at h
  refine ⟨_, h, ⟨Li.asc_filter _ (asc_begins _ ha.1), fun x hx => ?_, Nat.le_trans (List.length_filter_le _ _) (Nat.le_trans (len_begins _ _) ha.2.2)⟩, fun z => ?_⟩
  · have hx2 := (mem_begins _ _ _).mp (List.mem_filter.mp hx).1
    rw [show ([0, d] : List Int).getD 0 0 = 0 from rfl, Int.add_zero] at hx2
    exact ha.2.1 x hx2.2
  · rw [List.mem_filter, decide_eq_true_eq, mem_begins, mem_begins, show ([0, d] : List Int).getD 0 0 = 0 from rfl, show ([0, d] : List Int).getD (0 + 1) 0 = d from rfl, Int.add_zero]
    exact ⟨fun h => ⟨h.1.1, h.1.2, h.2.2⟩, fun h => ⟨⟨h.1, h.2.1⟩, h.1, h.2.2⟩⟩

theorem phrase_ok3 : ∃ p, Ev (fun k => lists_Phrase.f k [b, a, b] [d, 0, d]) (p, 0) ∧ Li.Asc p ∧ p.length ≤ 100 ∧ ∀ z, z ∈ p ↔ 0 ≤ z ∧ z ∈ a ∧ z + d ∈ b := by
  have h := phrase [b, a, b] [d, 0, d] (show 3 < 1099511627776 by omega)
  unfold phraseS at h
  have hbad : badAny [d, 0, d] = false := by
    unfold badAny
    rw [List.any_cons, List.any_cons, List.any_cons, List.any_nil, decide_eq_false (by omega), decide_eq_false (by omega)]; rfl
  rw [if_neg (by simp), if_pos (chkAll_ok (by simp [ha.chk, hb.chk])), hbad, if_neg (by simp), phrFrom, phrFrom, phrFrom, phrFrom, if_pos rfl, if_neg (by omega), if_neg (by omega)] at h
  refine ⟨_, h, Li.asc_filter _ (Li.asc_filter _ (asc_begins _ hb.1)), Nat.le_trans (List.length_filter_le _ _) (Nat.le_trans (List.length_filter_le _ _) (Nat.le_trans (len_begins _ _) hb.2.2)), fun z => ?_⟩
  rw [List.mem_filter, decide_eq_true_eq, List.mem_filter, decide_eq_true_eq, mem_begins, mem_begins, mem_begins, show ([d, 0, d] : List Int).getD 0 0 = d from rfl, show ([d, 0, d] : List Int).getD (0 + 1) 0 = 0 from rfl, show ([d, 0, d] : List Int).getD (0 + 1 + 1) 0 = d from rfl, Int.add_zero]
  exact ⟨fun h => ⟨h.1.1.1, h.1.2.2, h.2.2⟩, fun h => ⟨⟨⟨h.1, h.2.2⟩, h.1, h.2.1⟩, h.1, h.2.2⟩⟩

theorem joins_main (hmax : (2147483647 : Int) ∉ b) : Ev (fun k => MJoins.corporalaw18_ListsJoins.j0 k a b d false) true := by
  refine Ev_next ?_
  have hneg : wrap64 (-d) = -d := by unfold wrap64; omega
  simp only [MJoins.corporalaw18_ListsJoins.j0, Bool.false_eq_true, if_false]
  rw [hneg]
  obtain ⟨p, e1, vp, mp⟩ := phrase_ok2 a b d ha hb h0 h1
  obtain ⟨q, e2, aq, lq, mq⟩ := phrase_ok3 a b d ha hb h0 h1
  have e3 := shift b (-d) 2147483647
  unfold shiftS at e3
  rw [if_pos (hb.chk (by omega)), if_neg (by omega)] at e3
  have vs : Vl (shifted b (-d) 2147483647) 100 := ⟨asc_shifted _ _ hb.1, fun x hx => by have := ((mem_shifted _ _ _ _).mp hx).1; omega, Nat.le_trans (len_shifted _ _ _) hb.2.2⟩
  have e4 := intersect_ok (ha.chk (by omega)) (vs.chk (by omega))
  have e5 := subtract_ok (vp.chk (by omega)) (ha.chk (by omega))
  have hrest : less p a = [] := List.filter_eq_nil_iff.mpr fun x hx => by simp [((mp x).mp hx).2.1]
  rw [hrest] at e5
  refine Ev.bind e1 (Ev.bind e3 (Ev.bind e4 (Ev.bind e2 (Ev.bind e5 ?_))))
  simp only [if_true]
  have hpi : p = both a (shifted b (-d) 2147483647) := by
    refine Li.asc_ext vp.1 (ha.both _).1 fun z => ?_
    rw [mp, mem_both, mem_shifted, Int.sub_neg]
    constructor
    · rintro ⟨x1, x2, x3⟩
      refine ⟨x2, ⟨x1, ?_⟩, x3⟩
      have := (hb.2.1 _ x3).2
      rcases Int.lt_or_le z 2147483647 with h | h
      · exact h
      · have hz : z + d = 2147483647 := by omega
        rw [hz] at x3
        exact absurd x3 hmax
    · rintro ⟨x1, ⟨x2, _⟩, x3⟩
      exact ⟨x2, x1, x3⟩
  have hqp : q = p := Li.asc_ext aq vp.1 fun z => by rw [mp, mq]
  refine Ev.bind (same_ok hpi (Nat.lt_of_le_of_lt vp.2.2 (by omega))) ?_
  simp only [if_true]
  refine Ev.bind (same_ok hqp (Nat.lt_of_le_of_lt lq (by omega))) ?_
  have c0 : ((([] : List Int).length : Nat) : Int) = 0 := rfl
  simp only [if_true, if_pos c0]
  exact Ev.bind LEv.awake (Ev.now _)
end

theorem joins_yes (a b : List Int) (d : Int) : Ev (fun k => MJoins.corporalaw18_ListsJoins.j0 k a b d true) true := by
  refine Ev_next ?_
  simp only [MJoins.corporalaw18_ListsJoins.j0, if_true]
  exact Ev.now _

theorem ListsJoins : ∀ (l0 : List Int) (l1 : List Int) (a2 : Int), l0.length * 8 ≤ 140737488351232 → (∀ x ∈ l0, (Lit.int .i64 x).wf = true) → l1.length * 8 ≤ 140737488351232 → (∀ x ∈ l1, (Lit.int .i64 x).wf = true) → (Lit.int .i64 a2).wf = true → ∃ k, MJoins.corporalaw18_ListsJoins.f k l0 l1 a2 = some true := by
  intro a b d _ _ _ _ _
  refine Ev.rounds ?_
  unfold MJoins.corporalaw18_ListsJoins.f
  have yes := joins_yes a b d
  refine Ev.bind (long [a, b] (by simp)) ?_
  cases hl : longS [a, b] with
  | true => simp only [if_true]; exact yes
  | false =>
    obtain ⟨h1, _⟩ := longS_false hl
    simp only [Bool.false_eq_true, if_false]
    by_cases e1 : d < 0
    · simp only [if_pos e1]; exact yes
    · simp only [if_neg e1]
      by_cases e2 : d > 1000
      · simp only [if_pos e2]; exact yes
      · simp only [if_neg e2]
        refine Ev.bind (check a) ?_
        by_cases e3 : chk a = 0
        · simp only [if_pos e3]
          refine Ev.bind (check b) ?_
          by_cases e4 : chk b = 0
          · simp only [if_pos e4]
            have ha := Vl.of e3 (h1 a (by simp))
            have hb := Vl.of e4 (h1 b (by simp))
            have hb2 := hb.2.2
            refine Ev.bind (has b 2147483647 (by omega)) ?_
            by_cases e5 : (2147483647 : Int) ∈ b
            · rw [decide_eq_true e5]; exact yes
            · rw [decide_eq_false e5]
              exact joins_main a b d ha hb (by omega) (by omega) e5
          · simp only [if_neg e4]; exact yes
        · simp only [if_neg e3]; exact yes

end Go.Proofs.Ytmeojlamadcedaa.Pure
