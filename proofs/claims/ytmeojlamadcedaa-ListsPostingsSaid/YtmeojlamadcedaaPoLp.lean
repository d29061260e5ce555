/- What seeking in turn in two lists finds: their common elements.
   Conditions: ascending lists. -/
import Derived.Test.YtmeojlamadcedaaPoPure
namespace Go.Proofs.Ytmeojlamadcedaa.Po

def both (a b : List Int) : List Int := a.filter (fun x => decide (x ∈ b) == true)
theorem both_snoc (a b : List Int) (x : Int) : both (a ++ [x]) b = if x ∈ b then both a b ++ [x] else both a b := by
  unfold both
  rw [List.filter_append]
  by_cases h : x ∈ b
  · rw [if_pos h, List.filter_cons_of_pos (by simpa using h), List.filter_nil]
  · rw [if_neg h, List.filter_cons_of_neg (by simpa using h), List.filter_nil, List.append_nil]
theorem take_snoc (a : List Int) (r : Nat) (h : r < a.length) : a.take (r + 1) = a.take r ++ [a.getD r 0] := by
  rw [List.take_succ_eq_append_getElem h, List.getD_eq_getElem?_getD, List.getElem?_eq_getElem h]; rfl
theorem lp_skip (a b : List Int) (r : Nat) : ∀ r1, r ≤ r1 → r1 ≤ a.length → (∀ j, r ≤ j → j < r1 → a.getD j 0 ∉ b) → both (a.take r1) b = both (a.take r) b
  | 0, h1, _, _ => by obtain rfl : r = 0 := by omega
                      rfl
  | r1 + 1, h1, h2, h => by
    rcases Nat.lt_or_ge r (r1 + 1) with h3 | h3
    · rw [take_snoc a r1 (by omega), both_snoc, if_neg (h r1 (by omega) (by omega))]
      exact lp_skip a b r r1 (by omega) (by omega) (fun j hj1 hj2 => h j hj1 (by omega))
    · obtain rfl : r = r1 + 1 := by omega
      rfl
theorem not_mem_of {b : List Int} (hb : Valid b) (p x : Int) (hx : p ≤ x) (h : rk b p = b.length ∨ x < b.getD (rk b p) 0) : x ∉ b := by
  intro hm
  obtain ⟨i, hi, he⟩ := List.mem_iff_getElem.mp hm
  have hg : b.getD i 0 = x := by rw [List.getD_eq_getElem?_getD, List.getElem?_eq_getElem hi]; exact he
  have hle := rk_le b p
  rcases Nat.lt_or_ge i (rk b p) with h1 | h1
  · have := rk_lt b p i h1; omega
  · rcases h with h | h
    · omega
    · have := valid_le hb h1 hi; omega
theorem lp_stop (a b : List Int) (r : Nat) (h : r = a.length) : both (a.take r) b = both a b := by rw [h, List.take_length]
theorem lp_end {a b : List Int} (ha : Valid a) (hb : Valid b) (r : Nat) (hr : r < a.length) (h : rk b (a.getD r 0) = b.length) : both (a.take r) b = both a b := by
  rw [← lp_skip a b r a.length (by omega) (Nat.le_refl _) (fun j hj1 hj2 => not_mem_of hb (a.getD r 0) _ (valid_le ha hj1 hj2) (.inl h)), List.take_length]
theorem lp_eq {a b : List Int} (ha : Valid a) (r : Nat) (p : Int) (hr : r < a.length) (hp : a.getD r 0 = p) (hs : rk b p < b.length) (hq : b.getD (rk b p) 0 = p) :
    rk a (p + 1) = r + 1 ∧ both (a.take (r + 1)) b = both (a.take r) b ++ [p] := by
  constructor
  · refine rk_sorted ha _ _ (by omega) (fun _ => ?_) (fun h => ?_)
    · rw [Nat.add_sub_cancel, hp]; omega
    · have := valid_step ha r h; omega
  · rw [take_snoc a r hr, both_snoc, hp, if_pos]
    have h2 : b.getD (rk b p) 0 ∈ b := by
      rw [List.getD_eq_getElem?_getD, List.getElem?_eq_getElem hs]
      exact List.getElem_mem _
    rwa [hq] at h2
theorem lp_lt {a b : List Int} (ha : Valid a) (hb : Valid b) (r : Nat) (p q : Int) (hr : r < a.length) (hp : a.getD r 0 = p) (hs : rk b p < b.length) (hq : b.getD (rk b p) 0 = q) (hpq : p ≠ q) :
    r + 1 ≤ rk a q ∧ both (a.take (rk a q)) b = both (a.take r) b := by
  have h1 := rk_ge b p hs
  rw [hq] at h1
  have h2 : r + 1 ≤ rk a q := by
    rcases Nat.lt_or_ge r (rk a q) with h | h
    · exact h
    · have h3 := rk_ge a q (by omega)
      have h4 := valid_le ha h hr
      omega
  refine ⟨h2, lp_skip a b r (rk a q) (by omega) (rk_le a q) (fun j hj1 hj2 => ?_)⟩
  have h3 := rk_lt a q j hj2
  have h4 := valid_le ha hj1 (by have := rk_le a q; omega)
  exact not_mem_of hb p _ (by omega) (.inr (by rw [hq]; exact h3))
theorem valid_of {a : List Int} (h1 : a.Pairwise (· < ·)) (h2 : ∀ x ∈ a, 0 ≤ x ∧ x ≤ 2147483647) : Valid a := by
  intro i hi
  have e : ∀ j (hj : j < a.length), a.getD j 0 = a[j] := fun j hj => by rw [List.getD_eq_getElem?_getD, List.getElem?_eq_getElem hj]; rfl
  have hr := h2 _ (List.getElem_mem hi)
  refine ⟨by rw [e i hi]; exact hr.1, by rw [e i hi]; exact hr.2, ?_⟩
  cases i with
  | zero => show (-1 : Int) < _; rw [e 0 hi]; omega
  | succ i =>
    show a.getD i 0 < a.getD (i + 1) 0
    rw [e i (by omega), e (i + 1) hi]
    exact (List.pairwise_iff_getElem.mp h1) i (i + 1) (by omega) hi (by omega)
end Go.Proofs.Ytmeojlamadcedaa.Po
