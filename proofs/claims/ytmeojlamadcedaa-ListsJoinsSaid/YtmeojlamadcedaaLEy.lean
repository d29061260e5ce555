/- Shift and Phrase, the program's and the reference's: what they come to, and that both come to the same.
   Conditions: lengths as each theorem says. -/
import Derived.Test.YtmeojlamadcedaaLEw
import Derived.Test.YtmeojlamadcedaaL2x
namespace Go.Proofs.Ytmeojlamadcedaa.LEv
open Go.RowKit Go.Proofs.Ytmeojlamadcedaa.L Go.Proofs.Ytmeojlamadcedaa.L2 Go.Proofs.Ytmeojlamadcedaa.Given Go.Proofs.YtmeojlamadcedaaW.PrintWords Go.Proofs.YtmeojlamadcedaaW.PrintLast Go.Proofs.YtmeojlamadcedaaW.PrintMore

/-! Shift -/
def shifted (l : List Int) (b m : Int) : List Int := (l.map (· + b)).filter (fun y => decide (0 ≤ y ∧ y < m))
def shiftS (l : List Int) (b m : Int) : List Int × Int :=
  if chk l = 0 then (if b < -4096 ∨ 4096 < b ∨ m < 0 ∨ 2147483647 < m then ([], 1) else (shifted l b m, 0)) else ([], chk l)

theorem add_w {x b : Int} (h0 : 0 ≤ x) (h1 : x ≤ 2147483647) (h2 : -4096 ≤ b) (h3 : b ≤ 4096) : wrap64 (x + b) = x + b := by unfold wrap64; omega

theorem getD_mem {l : List Int} {i : Nat} (h : i < l.length) : l.getD i 0 ∈ l := by
  rw [List.getD_eq_getElem?_getD, List.getElem?_eq_getElem h]
  exact List.getElem_mem _

theorem shift_l (l : List Int) (b m : Int) (hv : ∀ x ∈ l, 0 ≤ x ∧ x ≤ 2147483647) (hn : l.length ≤ 4096) (hb1 : -4096 ≤ b) (hb2 : b ≤ 4096) : ∀ (d i : Nat) (o : List Int), i + d = l.length → o.length ≤ i →
    Ev (fun k => lists_Shift.l0 k b m o l (l.length : Int) (i : Int)) (o ++ shifted (l.drop i) b m, 0)
  | 0, i, o, h, _ => by
    refine Ev_next ?_
    have c1 : ¬ ((i : Int) < (l.length : Int)) := by omega
    simp only [lists_Shift.l0, if_neg c1]
    rw [List.drop_of_length_le (by omega), show shifted [] b m = [] from rfl, List.append_nil]
    exact Ev.now _
  | d + 1, i, o, h, ho => by
    refine Ev_next ?_
    have c1 : (i : Int) < (l.length : Int) := by omega
    have c2 : (0 : Int) ≤ (i : Int) := by omega
    have c3 : o.length < 17592186044416 := by omega
    simp only [lists_Shift.l0, if_pos c1, if_pos c2, if_pos c3]
    obtain ⟨v1, v2⟩ := hv _ (getD_mem (show i < l.length by omega))
    rw [rd_nat, add_w v1 v2 hb1 hb2, drop_cons l i 0 (by omega), w1 (show i < 1099511627776 by omega)]
    have hs : shifted (l.getD i 0 :: l.drop (i + 1)) b m = (if 0 ≤ l.getD i 0 + b ∧ l.getD i 0 + b < m then [l.getD i 0 + b] else []) ++ shifted (l.drop (i + 1)) b m := by
      unfold shifted
      rw [List.map_cons, List.filter_cons]
      by_cases e : 0 ≤ l.getD i 0 + b ∧ l.getD i 0 + b < m
      · rw [if_pos (by simpa using e), if_pos e]; rfl
      · rw [if_neg (by simpa using e), if_neg e]; rfl
    rw [hs]
    by_cases e1 : l.getD i 0 + b ≥ 0
    · simp only [if_pos e1]
      by_cases e2 : l.getD i 0 + b < m
      · simp only [if_pos e2]
        rw [if_pos ⟨e1, e2⟩, ← List.append_assoc]
        exact shift_l l b m hv hn hb1 hb2 d (i + 1) _ (by omega) (by simp; omega)
      · simp only [if_neg e2]
        rw [if_neg (fun h => e2 h.2), List.nil_append]
        exact shift_l l b m hv hn hb1 hb2 d (i + 1) _ (by omega) (by omega)
    · simp only [if_neg e1]
      rw [if_neg (fun h => e1 h.1), List.nil_append]
      exact shift_l l b m hv hn hb1 hb2 d (i + 1) _ (by omega) (by omega)

theorem shift_j (l : List Int) (b m : Int) (c : Bool) (hv : c = false → (∀ x ∈ l, 0 ≤ x ∧ x ≤ 2147483647) ∧ l.length ≤ 4096 ∧ -4096 ≤ b ∧ b ≤ 4096) :
    Ev (fun k => lists_Shift.j0 k l b m c) (if c = true then ([], 1) else (shifted l b m, 0)) := by
  refine Ev_next ?_
  simp only [lists_Shift.j0]
  cases c with
  | true => simp only [if_true]; exact Ev.now _
  | false =>
    simp only [Bool.false_eq_true, if_false]
    obtain ⟨h1, h2, h3, h4⟩ := hv rfl
    have := shift_l l b m h1 h2 h3 h4 l.length 0 [] (by omega) (by simp)
    simpa using this

theorem badOff (x : Int) : lists_badOffset.f x = some (decide (x < -4096 ∨ 4096 < x)) := by
  unfold lists_badOffset.f
  by_cases h : x < -4096
  · rw [if_pos h, decide_eq_true (.inl h)]
  · rw [if_neg h]
    congr 1
    exact decide_eq_decide.mpr ⟨.inr, fun h' => h'.resolve_left h⟩

theorem shift (l : List Int) (b m : Int) : Ev (fun k => lists_Shift.f k l b m) (shiftS l b m) := by
  unfold lists_Shift.f shiftS
  refine Ev.bind (check l) ?_
  by_cases e : chk l = 0
  · obtain ⟨_, v2, v3⟩ := chk_zero e
    simp only [if_pos e, badOff, Option.bind_some]
    by_cases e1 : b < -4096 ∨ 4096 < b
    · simp only [decide_eq_true e1, if_true]
      rw [if_pos (by rcases e1 with h | h; exact .inl h; exact .inr (.inl h))]
      exact shift_j l b m true (fun h => by cases h)
    · simp only [decide_eq_false e1, Bool.false_eq_true, if_false]
      by_cases e2 : m < 0
      · simp only [if_pos e2]
        rw [if_pos (.inr (.inr (.inl e2)))]
        exact shift_j l b m true (fun h => by cases h)
      · simp only [if_neg e2]
        have := shift_j l b m (decide (m > 2147483647)) (fun _ => ⟨v2, v3, by omega, by omega⟩)
        by_cases e3 : m > 2147483647
        · rw [if_pos (.inr (.inr (.inr e3)))]
          simpa [e3] using this
        · rw [if_neg (by omega)]
          simpa [e3] using this
  · simp only [if_neg e]
    exact Ev.now _

/-! the reference's Shift -/
theorem rshift_l (l : List Int) (b m : Int) (hv : ∀ x ∈ l, 0 ≤ x ∧ x ≤ 2147483647) (hn : l.length ≤ 4096) (hb1 : -4096 ≤ b) (hb2 : b ≤ 4096) : ∀ (d i : Nat) (o : List Int), i + d = l.length → o.length ≤ i →
    Ev (fun k => corporaref18_Shift.l0 k b m o l (l.length : Int) (i : Int)) (o ++ shifted (l.drop i) b m, 0)
  | 0, i, o, h, _ => by
    refine Ev_next ?_
    have c1 : ¬ ((i : Int) < (l.length : Int)) := by omega
    simp only [corporaref18_Shift.l0, if_neg c1]
    rw [List.drop_of_length_le (by omega), show shifted [] b m = [] from rfl, List.append_nil]
    exact Ev.now _
  | d + 1, i, o, h, ho => by
    refine Ev_next ?_
    have c1 : (i : Int) < (l.length : Int) := by omega
    have c2 : (0 : Int) ≤ (i : Int) := by omega
    have c3 : o.length < 17592186044416 := by omega
    simp only [corporaref18_Shift.l0, if_pos c1, if_pos c2, if_pos c3]
    obtain ⟨v1, v2⟩ := hv _ (getD_mem (show i < l.length by omega))
    rw [rd_nat, add_w v1 v2 hb1 hb2, drop_cons l i 0 (by omega), w1 (show i < 1099511627776 by omega)]
    have hs : shifted (l.getD i 0 :: l.drop (i + 1)) b m = (if 0 ≤ l.getD i 0 + b ∧ l.getD i 0 + b < m then [l.getD i 0 + b] else []) ++ shifted (l.drop (i + 1)) b m := by
      unfold shifted
      rw [List.map_cons, List.filter_cons]
      by_cases e : 0 ≤ l.getD i 0 + b ∧ l.getD i 0 + b < m
      · rw [if_pos (by simpa using e), if_pos e]; rfl
      · rw [if_neg (by simpa using e), if_neg e]; rfl
    rw [hs]
    by_cases e1 : l.getD i 0 + b ≥ 0
    · simp only [if_pos e1]
      by_cases e2 : l.getD i 0 + b < m
      · simp only [if_pos e2]
        rw [if_pos ⟨e1, e2⟩, ← List.append_assoc]
        exact rshift_l l b m hv hn hb1 hb2 d (i + 1) _ (by omega) (by simp; omega)
      · simp only [if_neg e2]
        rw [if_neg (fun h => e2 h.2), List.nil_append]
        exact rshift_l l b m hv hn hb1 hb2 d (i + 1) _ (by omega) (by omega)
    · simp only [if_neg e1]
      rw [if_neg (fun h => e1 h.1), List.nil_append]
      exact rshift_l l b m hv hn hb1 hb2 d (i + 1) _ (by omega) (by omega)

theorem rshift_j (l : List Int) (b m : Int) (c : Bool) (hv : c = false → (∀ x ∈ l, 0 ≤ x ∧ x ≤ 2147483647) ∧ l.length ≤ 4096 ∧ -4096 ≤ b ∧ b ≤ 4096) :
    Ev (fun k => corporaref18_Shift.j0 k l b m c) (if c = true then ([], 1) else (shifted l b m, 0)) := by
  refine Ev_next ?_
  simp only [corporaref18_Shift.j0]
  cases c with
  | true => simp only [if_true]; exact Ev.now _
  | false =>
    simp only [Bool.false_eq_true, if_false]
    obtain ⟨h1, h2, h3, h4⟩ := hv rfl
    have := rshift_l l b m h1 h2 h3 h4 l.length 0 [] (by omega) (by simp)
    simpa using this

theorem rshift (l : List Int) (b m : Int) : Ev (fun k => corporaref18_Shift.f k l b m) (shiftS l b m) := by
  unfold corporaref18_Shift.f shiftS
  refine Ev.bind (rcheck l) ?_
  by_cases e : chk l = 0
  · obtain ⟨_, v2, v3⟩ := chk_zero e
    simp only [if_pos e]
    by_cases e0 : b < -4096
    · simp only [if_pos e0]
      rw [if_pos (.inl e0)]
      exact rshift_j l b m true (fun h => by cases h)
    · simp only [if_neg e0]
      by_cases e1 : b > 4096
      · simp only [if_pos e1]
        rw [if_pos (.inr (.inl e1))]
        exact rshift_j l b m true (fun h => by cases h)
      · simp only [if_neg e1]
        by_cases e2 : m < 0
        · simp only [if_pos e2]
          rw [if_pos (.inr (.inr (.inl e2)))]
          exact rshift_j l b m true (fun h => by cases h)
        · simp only [if_neg e2]
          have := rshift_j l b m (decide (m > 2147483647)) (fun _ => ⟨v2, v3, by omega, by omega⟩)
          by_cases e3 : m > 2147483647
          · rw [if_pos (.inr (.inr (.inr e3)))]
            simpa [e3] using this
          · rw [if_neg (by omega)]
            simpa [e3] using this
  · simp only [if_neg e]
    exact Ev.now _

end Go.Proofs.Ytmeojlamadcedaa.LEv
