/- What further printed functions of lists, its reference and its law come to, with enough rounds.
   Conditions: lengths as each theorem says. -/
import Derived.Test.YtmeojlamadcedaaLEv
namespace Go.Proofs.Ytmeojlamadcedaa.LEv
open Go.RowKit Go.Proofs.Ytmeojlamadcedaa.L Go.Proofs.Ytmeojlamadcedaa.Given Go.Proofs.YtmeojlamadcedaaW.PrintWords Go.Proofs.YtmeojlamadcedaaW.PrintLast Go.Proofs.YtmeojlamadcedaaW.PrintMore

/-! the reference's Check, CheckAll -/
theorem rchk_l (l : List Int) (hn : l.length ≤ 4096) : ∀ (d i : Nat), i + d = l.length →
    Ev (fun k => corporaref18_Check.l0 k l l (l.length : Int) (i : Int)) (chkFrom (prev l i) (l.drop i))
  | 0, i, h => by
    refine Ev_next ?_
    have c1 : ¬ ((i : Int) < (l.length : Int)) := by omega
    simp only [corporaref18_Check.l0, if_neg c1]
    rw [List.drop_of_length_le (by omega)]
    exact Ev.now _
  | d + 1, i, h => by
    refine Ev_next ?_
    have c1 : (i : Int) < (l.length : Int) := by omega
    have c2 : (0 : Int) ≤ (i : Int) := by omega
    simp only [corporaref18_Check.l0, if_pos c1, if_pos c2]
    rw [rd_nat, drop_cons l i 0 (by omega)]
    by_cases n1 : l.getD i 0 < 0
    · simp only [if_pos n1]
      refine Ev_next ?_
      simp only [corporaref18_Check.j1, reduceIte]
      rw [chkFrom, if_pos (.inl n1)]
      exact Ev.now _
    · simp only [if_neg n1]
      by_cases n2 : l.getD i 0 > 2147483647
      · refine Ev_next ?_
        have e : decide (l.getD i 0 > 2147483647) = true := decide_eq_true n2
        simp only [e, corporaref18_Check.j1, reduceIte]
        rw [chkFrom, if_pos (.inr n2)]
        exact Ev.now _
      · refine Ev_next ?_
        have e : decide (l.getD i 0 > 2147483647) = false := decide_eq_false n2
        rw [chkFrom, if_neg (by omega)]
        have hrec := rchk_l l hn d (i + 1) (by omega)
        rw [show prev l (i + 1) = l.getD i 0 from rfl] at hrec
        simp only [e, corporaref18_Check.j1, Bool.false_eq_true, if_false, w1 (show i < 1099511627776 by omega)]
        cases i with
        | zero =>
          simp only [show ¬ (((0 : Nat) : Int) > 0) from by omega, if_false]
          rw [if_neg (by simp only [prev]; omega)]
          exact hrec
        | succ j =>
          have cj : ((j + 1 : Nat) : Int) > 0 := by omega
          have wj : wrap64 (((j + 1 : Nat) : Int) - 1) = (j : Int) := by unfold wrap64; omega
          have c3 : (0 : Int) ≤ (j : Int) := by omega
          have c4 : (j : Int) < (l.length : Int) := by omega
          simp only [if_pos cj, wj, if_pos c3, if_pos c4]
          rw [rd_nat, show prev l (j + 1) = l.getD j 0 from rfl]
          by_cases o : l.getD (j + 1) 0 ≤ l.getD j 0
          · have o' : l.getD j 0 ≥ l.getD (j + 1) 0 := o
            rw [if_pos o]; simp only [if_pos o']; exact Ev.now _
          · have o' : ¬ (l.getD j 0 ≥ l.getD (j + 1) 0) := o
            rw [if_neg o]; simp only [if_neg o']; exact hrec

theorem rcheck (l : List Int) : Ev (fun k => corporaref18_Check.f k l) (chk l) := by
  unfold corporaref18_Check.f chk
  by_cases h : 4096 < l.length
  · have c : (l.length : Int) > 4096 := by omega
    simp only [if_pos c, if_pos h]; exact Ev.now _
  · have c : ¬ ((l.length : Int) > 4096) := by omega
    simp only [if_neg c, if_neg h]
    have := rchk_l l (by omega) l.length 0 (by omega)
    simpa [prev] using this

theorem rcheckAll_l (ls : List (List Int)) (hn : ls.length < 1099511627776) : ∀ (d i : Nat), i + d = ls.length →
    Ev (fun k => corporaref18_CheckAll.l0 k ls (ls.length : Int) (i : Int)) (chkAll (ls.drop i))
  | 0, i, h => by
    refine Ev_next ?_
    have c1 : ¬ ((i : Int) < (ls.length : Int)) := by omega
    simp only [corporaref18_CheckAll.l0, if_neg c1]
    rw [List.drop_of_length_le (by omega)]
    exact Ev.now _
  | d + 1, i, h => by
    refine Ev_next ?_
    have c1 : (i : Int) < (ls.length : Int) := by omega
    have c2 : (0 : Int) ≤ (i : Int) := by omega
    simp only [corporaref18_CheckAll.l0, if_pos c1, if_pos c2, rdL_nat]
    rw [drop_cons ls i [] (by omega), chkAll]
    refine Ev.bind (rcheck _) ?_
    by_cases e : chk (ls.getD i []) = 0
    · simp only [if_pos e, w1 (show i < 1099511627776 by omega)]
      exact rcheckAll_l ls hn d (i + 1) (by omega)
    · simp only [if_neg e]
      exact Ev.now _
theorem rcheckAll (ls : List (List Int)) (hn : ls.length < 1099511627776) : Ev (fun k => corporaref18_CheckAll.f k ls) (chkAll ls) := by
  unfold corporaref18_CheckAll.f
  have := rcheckAll_l ls hn ls.length 0 (by omega)
  simpa using this

/-! long -/
theorem w2 {i : Nat} (h : i < 1125899906842624) : wrap64 ((i : Int) + 1) = ((i + 1 : Nat) : Int) := by unfold wrap64; omega
def longS (ls : List (List Int)) : Bool := ls.any (fun l => decide (100 < l.length)) || decide (12 < ls.length)
theorem long_l (ls : List (List Int)) (hn : ls.length < 1125899906842624) : ∀ (d i : Nat), i + d = ls.length →
    Ev (fun k => corporalaw18_long.l0 k ls ls (ls.length : Int) (i : Int)) ((ls.drop i).any (fun l => decide (100 < l.length)) || decide (12 < ls.length))
  | 0, i, h => by
    refine Ev_next ?_
    have c1 : ¬ ((i : Int) < (ls.length : Int)) := by omega
    simp only [corporalaw18_long.l0, if_neg c1]
    rw [List.drop_of_length_le (by omega), List.any_nil, Bool.false_or, show decide (((ls.length : Nat) : Int) > 12) = decide (12 < ls.length) from decide_eq_decide.mpr (by omega)]
    exact Ev.now _
  | d + 1, i, h => by
    refine Ev_next ?_
    have c1 : (i : Int) < (ls.length : Int) := by omega
    have c2 : (0 : Int) ≤ (i : Int) := by omega
    simp only [corporalaw18_long.l0, if_pos c1, if_pos c2]
    rw [rdL_nat, drop_cons ls i [] (by omega), List.any_cons]
    by_cases e : 100 < (ls.getD i []).length
    · have e' : (((ls.getD i []).length : Nat) : Int) > 100 := by omega
      simp only [if_pos e', decide_eq_true e, Bool.true_or]
      exact Ev.now _
    · have e' : ¬ ((((ls.getD i []).length : Nat) : Int) > 100) := by omega
      simp only [if_neg e', decide_eq_false e, Bool.false_or, w2 (show i < 1125899906842624 by omega)]
      exact long_l ls hn d (i + 1) (by omega)
theorem long (ls : List (List Int)) (hn : ls.length < 1125899906842624) : Ev (fun k => corporalaw18_long.f k ls) (longS ls) := by
  unfold corporalaw18_long.f longS
  have := long_l ls hn ls.length 0 (by omega)
  simpa using this
theorem longS_false {ls : List (List Int)} (h : longS ls = false) : (∀ l ∈ ls, l.length ≤ 100) ∧ ls.length ≤ 12 := by
  unfold longS at h
  rw [Bool.or_eq_false_iff] at h
  refine ⟨fun l hl => ?_, by have := of_decide_eq_false h.2; omega⟩
  have := List.any_eq_false.mp h.1 l hl
  have := of_decide_eq_false (by simpa using this : decide (100 < l.length) = false)
  omega

/-! awake -/
theorem awake : Ev (fun k => corporalaw18_awake.f k) true := Ev.of corporalaw18_awake.mono (k := 40) (by decide +kernel)

/-! Has -/
theorem has_l (l : List Int) (x : Int) (hn : l.length < 1099511627776) : ∀ (d i : Nat), i + d = l.length →
    Ev (fun k => corporaref18_Has.l0 k x l (l.length : Int) (i : Int)) (decide (x ∈ l.drop i))
  | 0, i, h => by
    refine Ev_next ?_
    have c1 : ¬ ((i : Int) < (l.length : Int)) := by omega
    simp only [corporaref18_Has.l0, if_neg c1]
    rw [List.drop_of_length_le (by omega), show decide (x ∈ ([] : List Int)) = false from by simp]
    exact Ev.now _
  | d + 1, i, h => by
    refine Ev_next ?_
    have c1 : (i : Int) < (l.length : Int) := by omega
    have c2 : (0 : Int) ≤ (i : Int) := by omega
    simp only [corporaref18_Has.l0, if_pos c1, if_pos c2]
    rw [rd_nat, drop_cons l i 0 (by omega)]
    by_cases e : l.getD i 0 = x
    · simp only [if_pos e]
      rw [show decide (x ∈ l.getD i 0 :: l.drop (i + 1)) = true from by rw [e]; simp]
      exact Ev.now _
    · simp only [if_neg e, w1 (show i < 1099511627776 by omega)]
      have e2 : ¬ (x = l.getD i 0) := fun h => e h.symm
      rw [show decide (x ∈ l.getD i 0 :: l.drop (i + 1)) = decide (x ∈ l.drop (i + 1)) from decide_eq_decide.mpr (by rw [List.mem_cons]; exact ⟨fun h => h.resolve_left e2, .inr⟩)]
      exact has_l l x hn d (i + 1) (by omega)
theorem has (l : List Int) (x : Int) (hn : l.length < 1099511627776) : Ev (fun k => corporaref18_Has.f k l x) (decide (x ∈ l)) := by
  unfold corporaref18_Has.f
  have := has_l l x hn l.length 0 (by omega)
  simpa using this

/-! Choose -/
theorem choose_l (a b : List Int) (c : Bool) (hn : a.length < 1099511627776) (hm : b.length < 1099511627776) : ∀ (d i : Nat) (p : List Int), i + d = a.length → p.length ≤ i →
    Ev (fun k => corporaref18_Choose.l0 k b c p a (a.length : Int) (i : Int)) (p ++ (a.drop i).filter (fun x => decide (x ∈ b) == c), 0)
  | 0, i, p, h, _ => by
    refine Ev_next ?_
    have c1 : ¬ ((i : Int) < (a.length : Int)) := by omega
    simp only [corporaref18_Choose.l0, if_neg c1]
    rw [List.drop_of_length_le (by omega), List.filter_nil, List.append_nil]
    exact Ev.now _
  | d + 1, i, p, h, hp => by
    refine Ev_next ?_
    have c1 : (i : Int) < (a.length : Int) := by omega
    have c2 : (0 : Int) ≤ (i : Int) := by omega
    have c3 : p.length < 17592186044416 := by omega
    simp only [corporaref18_Choose.l0, if_pos c1, if_pos c2, if_pos c3]
    rw [rd_nat, drop_cons a i 0 (by omega)]
    refine Ev.bind (has b _ hm) ?_
    by_cases e : (decide (a.getD i 0 ∈ b) == c) = true
    · simp only [if_pos e, w1 (show i < 1099511627776 by omega)]
      have := choose_l a b c hn hm d (i + 1) (p ++ [a.getD i 0]) (by omega) (by simp; omega)
      rw [List.filter_cons, if_pos e]
      rw [List.append_assoc] at this
      exact this
    · simp only [if_neg e, w1 (show i < 1099511627776 by omega)]
      rw [List.filter_cons, if_neg e]
      exact choose_l a b c hn hm d (i + 1) p (by omega) (by omega)
def chooseS (a b : List Int) (c : Bool) : List Int × Int := if chkAll [a, b] = 0 then (a.filter (fun x => decide (x ∈ b) == c), 0) else ([], chkAll [a, b])
theorem chk2 {a b : List Int} (h : chkAll [a, b] = 0) : chk a = 0 ∧ chk b = 0 := ⟨chkAll_zero h a (by simp), chkAll_zero h b (by simp)⟩
theorem choose (a b : List Int) (c : Bool) : Ev (fun k => corporaref18_Choose.f k a b c) (chooseS a b c) := by
  unfold corporaref18_Choose.f chooseS
  refine Ev.bind (rcheckAll [a, b] (by simp)) ?_
  by_cases e : chkAll [a, b] = 0
  · simp only [if_pos e]
    obtain ⟨ea, eb⟩ := chk2 e
    have h1 := (chk_zero ea).2.2
    have h2 := (chk_zero eb).2.2
    have := choose_l a b c (by omega) (by omega) a.length 0 [] (by omega) (by simp)
    simpa using this
  · simp only [if_neg e]
    exact Ev.now _

/-! Intersect, Subtract -/
theorem intersect (a b : List Int) : Ev (fun k => lists_Intersect.f k a b) (chooseS a b true) := by
  unfold lists_Intersect.f chooseS
  refine Ev.bind (checkAll [a, b] (by simp)) ?_
  by_cases e : chkAll [a, b] = 0
  · simp only [if_pos e]
    obtain ⟨ea, eb⟩ := chk2 e
    have h1 := chk_zero ea
    have h2 := chk_zero eb
    refine Ev.bind (split a b h1.1 h2.1 (by omega) (by omega)) ?_
    rw [show (fun x => decide (x ∈ b) == true) = (fun x => decide (x ∈ b)) from by funext x; simp]
    exact Ev.now _
  · simp only [if_neg e]
    exact Ev.now _
theorem subtract (a b : List Int) : Ev (fun k => lists_Subtract.f k a b) (chooseS a b false) := by
  unfold lists_Subtract.f chooseS
  refine Ev.bind (checkAll [a, b] (by simp)) ?_
  by_cases e : chkAll [a, b] = 0
  · simp only [if_pos e]
    obtain ⟨ea, eb⟩ := chk2 e
    have h1 := chk_zero ea
    have h2 := chk_zero eb
    refine Ev.bind (split a b h1.1 h2.1 (by omega) (by omega)) ?_
    rw [show (fun x => decide (x ∈ b) == false) = (fun x => !decide (x ∈ b)) from by funext x; cases decide (x ∈ b) <;> rfl]
    exact Ev.now _
  · simp only [if_neg e]
    exact Ev.now _

end Go.Proofs.Ytmeojlamadcedaa.LEv
