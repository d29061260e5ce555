/- The laws of sets between Intersect, Subtract, Union and Merge on short valid lists (the pure side of ListsBoolean).
   Conditions: none beyond the lengths that the arguments' weights allow. -/
import Derived.Test.YtmeojlamadcedaaLSet
import Derived.Test.YtmeojlamadcedaaMBooleanx1
namespace Go.Proofs.Ytmeojlamadcedaa.Pure
open Go.RowKit Go.Proofs.Ytmeojlamadcedaa.L Go.Proofs.Ytmeojlamadcedaa.LEv Go.Proofs.YtmeojlamadcedaaW.PrintWords Go.Proofs.YtmeojlamadcedaaW.PrintLast Go.Proofs.YtmeojlamadcedaaW.PrintMore

theorem boolean_j (a b c : List Int) (ha : Vl a 100) (hb : Vl b 100) (hc : Vl c 100) : Ev (fun k => MBoolean.corporalaw18_ListsBoolean.j1 k a b c (Li.uni a b) false) true := by
  refine Ev_next ?_
  have hu := ha.uni hb
  simp only [MBoolean.corporalaw18_ListsBoolean.j1, Bool.false_eq_true, if_false]
  have s1 := subtract_ok (ha.chk (by omega)) (hu.chk (by omega))
  have e1 : less a (Li.uni a b) = [] := List.filter_eq_nil_iff.mpr fun x hx => by simp [Li.mem_uni, hx]
  have s2 := subtract_ok (hu.chk (by omega)) (hc.chk (by omega))
  have s3 := subtract_ok (ha.chk (by omega)) (hc.chk (by omega))
  have s4 := subtract_ok (hb.chk (by omega)) (hc.chk (by omega))
  have s5 := union_ok (ha.less c) (hb.less c) (by omega)
  rw [e1] at s1
  refine Ev.bind s1 (Ev.bind s2 (Ev.bind s3 (Ev.bind s4 (Ev.bind s5 ?_))))
  have c0 : ((([] : List Int).length : Nat) : Int) = 0 := rfl
  simp only [if_pos c0]
  have e2 : less (Li.uni a b) c = Li.uni (less a c) (less b c) := by
    refine Li.asc_ext (hu.less c).1 ((ha.less c).uni (hb.less c)).1 fun z => ?_
    rw [mem_less, Li.mem_uni, Li.mem_uni, mem_less, mem_less]
    constructor
    · rintro ⟨h | h, hz⟩
      · exact .inl ⟨h, hz⟩
      · exact .inr ⟨h, hz⟩
    · rintro (⟨h, hz⟩ | ⟨h, hz⟩)
      · exact ⟨.inl h, hz⟩
      · exact ⟨.inr h, hz⟩
  refine Ev.bind (same_ok e2 (Nat.lt_of_le_of_lt (hu.less c).2.2 (by omega))) ?_
  simp only [if_true]
  exact Ev.bind LEv.awake (Ev.now _)

theorem boolean_main (a b c : List Int) (ls : List (List Int)) (ha : Vl a 100) (hb : Vl b 100) (hc : Vl c 100) (i n : Int) (h : ¬ i < n) : Ev (fun k => MBoolean.corporalaw18_ListsBoolean.l0 k a b c ls n i) true := by
  refine Ev_next ?_
  simp only [MBoolean.corporalaw18_ListsBoolean.l0, if_neg h]
  have hu := ha.uni hb
  have s1 := intersect_ok (ha.chk (by omega)) (hb.chk (by omega))
  have s2 := subtract_ok (ha.chk (by omega)) (hb.chk (by omega))
  have s3 := subtract_ok (hb.chk (by omega)) (ha.chk (by omega))
  have s4 := union_ok ha hb (by omega)
  have s5 := union_ok (ha.both b) (ha.less b) (by omega)
  have s6 := merge3_ok (ha.less b) (ha.both b) (hb.less a) (by omega)
  refine Ev.bind s1 (Ev.bind s2 (Ev.bind s3 (Ev.bind s4 (Ev.bind s5 (Ev.bind s6 ?_)))))
  simp only [if_true]
  have e1 : Li.uni (both a b) (less a b) = a := by
    refine Li.asc_ext ((ha.both b).uni (ha.less b)).1 ha.1 fun z => ?_
    rw [Li.mem_uni, mem_both, mem_less]
    by_cases hz : z ∈ b <;> simp [hz]
  have e2 : Li.uni (Li.uni (less a b) (both a b)) (less b a) = Li.uni a b := by
    refine Li.asc_ext (((ha.less b).uni (ha.both b)).uni (hb.less a)).1 hu.1 fun z => ?_
    rw [Li.mem_uni, Li.mem_uni, mem_both, mem_less, mem_less, Li.mem_uni]
    by_cases hz : z ∈ b <;> by_cases hy : z ∈ a <;> simp [hz, hy]
  refine Ev.bind (same_ok e1 (Nat.lt_of_le_of_lt ((ha.both b).uni (ha.less b)).2.2 (by omega))) ?_
  simp only [if_true]
  refine Ev.bind (same_ok e2 (Nat.lt_of_le_of_lt (((ha.less b).uni (ha.both b)).uni (hb.less a)).2.2 (by omega))) ?_
  simp only [if_true]
  have hl := len_share a b
  have h1 := ha.2.2
  have e3 : ((wrap64 (((both a b).length : Int) + ((less a b).length : Int))) != (a.length : Int)) = false := by
    rw [bne_eq_false_iff_eq]
    unfold wrap64
    omega
  rw [e3]
  exact boolean_j a b c ha hb hc

theorem boolean_l (a b c : List Int) (ls : List (List Int)) (hn : ls.length < 1099511627776) (hall : (∀ l ∈ ls, chk l = 0) → Vl a 100 ∧ Vl b 100 ∧ Vl c 100) : ∀ (d i : Nat), i + d = ls.length → (∀ l ∈ ls.take i, chk l = 0) →
    Ev (fun k => MBoolean.corporalaw18_ListsBoolean.l0 k a b c ls (ls.length : Int) (i : Int)) true
  | 0, i, h, hp => by
    rw [List.take_of_length_le (by omega)] at hp
    obtain ⟨h1, h2, h3⟩ := hall hp
    exact boolean_main a b c ls h1 h2 h3 _ _ (by omega)
  | d + 1, i, h, hp => by
    refine Ev_next ?_
    have c1 : (i : Int) < (ls.length : Int) := by omega
    have c2 : (0 : Int) ≤ (i : Int) := by omega
    simp only [MBoolean.corporalaw18_ListsBoolean.l0, if_pos c1, if_pos c2]
    rw [show MBoolean.rd_L1 ls (i : Int) = ls.getD i [] from rfl]
    refine Ev.bind (check _) ?_
    by_cases e : chk (ls.getD i []) = 0
    · simp only [if_pos e, w1 (show i < 1099511627776 by omega)]
      refine boolean_l a b c ls hn hall d (i + 1) (by omega) fun l hl => ?_
      rw [List.take_succ_eq_append_getElem (by omega), List.mem_append, List.mem_singleton] at hl
      rcases hl with hl | rfl
      · exact hp l hl
      · rw [List.getD_eq_getElem?_getD, List.getElem?_eq_getElem (by omega)] at e; exact e
    · simp only [if_neg e]
      exact Ev.now _

theorem ListsBoolean : ∀ (l0 : List Int) (l1 : List Int) (l2 : List Int), l0.length * 8 ≤ 140737488351232 → (∀ x ∈ l0, (Lit.int .i64 x).wf = true) → l1.length * 8 ≤ 140737488351232 → (∀ x ∈ l1, (Lit.int .i64 x).wf = true) → l2.length * 8 ≤ 140737488351232 → (∀ x ∈ l2, (Lit.int .i64 x).wf = true) → ∃ k, MBoolean.corporalaw18_ListsBoolean.f k l0 l1 l2 = some true := by
  intro a b c _ _ _ _ _ _
  refine Ev.rounds ?_
  unfold MBoolean.corporalaw18_ListsBoolean.f
  refine Ev.bind (long [a, b, c] (by simp)) ?_
  cases hl : longS [a, b, c] with
  | true => simp only [if_true]; exact Ev.now _
  | false =>
    obtain ⟨h1, _⟩ := longS_false hl
    simp only [Bool.false_eq_true, if_false, Option.bind_some]
    exact boolean_l a b c [a, b, c] (by simp) (fun h => ⟨Vl.of (h a (by simp)) (h1 a (by simp)), Vl.of (h b (by simp)) (h1 b (by simp)), Vl.of (h c (by simp)) (h1 c (by simp))⟩) 3 0 rfl (by simp)

end Go.Proofs.Ytmeojlamadcedaa.Pure
