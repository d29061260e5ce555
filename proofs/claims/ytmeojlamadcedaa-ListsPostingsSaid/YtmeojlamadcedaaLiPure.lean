/- The plain mathematics of ascending lists: two of them with the same elements are one. No program in sight. -/
namespace Li

abbrev Asc (l : List Int) : Prop := l.Pairwise (· < ·)

theorem asc_ext : ∀ {a b : List Int}, Asc a → Asc b → (∀ x, x ∈ a ↔ x ∈ b) → a = b
  | [], [], _, _, _ => rfl
  | [], y :: b, _, _, h => absurd ((h y).mpr (by simp)) (by simp)
  | x :: a, [], _, _, h => absurd ((h x).mp (by simp)) (by simp)
  | x :: a, y :: b, ha, hb, h => by
    rw [Asc, List.pairwise_cons] at ha hb
    have e : x = y := by
      have h1 : x ∈ y :: b := (h x).mp (by simp)
      have h2 : y ∈ x :: a := (h y).mpr (by simp)
      rw [List.mem_cons] at h1 h2
      rcases h1 with h1 | h1
      · exact h1
      · rcases h2 with h2 | h2
        · exact h2.symm
        · have := hb.1 x h1; have := ha.1 y h2; omega
    subst e
    rw [asc_ext ha.2 hb.2 fun z => ?_]
    constructor
    · intro hz
      have := (h z).mp (by simp [hz])
      rw [List.mem_cons] at this
      rcases this with e | this
      · have := ha.1 z hz; omega
      · exact this
    · intro hz
      have := (h z).mpr (by simp [hz])
      rw [List.mem_cons] at this
      rcases this with e | this
      · have := hb.1 z hz; omega
      · exact this

/-- the union of two ascending lists, as a merge goes -/
def uni : List Int → List Int → List Int
  | [], b => b
  | a, [] => a
  | x :: a, y :: b => if x < y then x :: uni a (y :: b) else if y < x then y :: uni (x :: a) b else x :: uni a b
  termination_by a b => a.length + b.length

theorem uni_nil_left (b : List Int) : uni [] b = b := by cases b <;> simp [uni]
theorem uni_nil_right (a : List Int) : uni a [] = a := by cases a <;> simp [uni]
theorem uni_lt (x y : Int) (a b : List Int) (h : x < y) : uni (x :: a) (y :: b) = x :: uni a (y :: b) := by rw [uni, if_pos h]
theorem uni_gt (x y : Int) (a b : List Int) (h : y < x) : uni (x :: a) (y :: b) = y :: uni (x :: a) b := by rw [uni, if_neg (by omega), if_pos h]
theorem uni_eq (x : Int) (a b : List Int) : uni (x :: a) (x :: b) = x :: uni a b := by rw [uni, if_neg (by omega), if_neg (by omega)]

theorem mem_uni (z : Int) : ∀ (a b : List Int), z ∈ uni a b ↔ z ∈ a ∨ z ∈ b
  | [], b => by simp [uni_nil_left]
  | x :: a, [] => by simp [uni_nil_right]
  | x :: a, y :: b => by
    by_cases h1 : x < y
    · rw [uni_lt x y a b h1, List.mem_cons, mem_uni z a (y :: b), List.mem_cons]; simp only [List.mem_cons, or_assoc]
    · by_cases h2 : y < x
      · rw [uni_gt x y a b h2, List.mem_cons, mem_uni z (x :: a) b]; simp only [List.mem_cons]
        constructor
        · rintro (h | (h | h) | h) <;> simp [h]
        · rintro ((h | h) | h | h) <;> simp [h]
      · have e : x = y := by omega
        subst e
        rw [uni_eq, List.mem_cons, mem_uni z a b]; simp only [List.mem_cons]
        constructor
        · rintro (h | h | h) <;> simp [h]
        · rintro ((h | h) | h | h) <;> simp [h]
  termination_by a b => a.length + b.length

theorem asc_uni : ∀ (a b : List Int), Asc a → Asc b → Asc (uni a b)
  | [], b, _, hb => by rw [uni_nil_left]; exact hb
  | x :: a, [], ha, _ => by rw [uni_nil_right]; exact ha
  | x :: a, y :: b, ha, hb => by
    have ha' := List.pairwise_cons.mp ha
    have hb' := List.pairwise_cons.mp hb
    by_cases h1 : x < y
    · rw [uni_lt x y a b h1, Asc, List.pairwise_cons]
      refine ⟨fun z hz => ?_, asc_uni a (y :: b) ha'.2 hb⟩
      rw [mem_uni, List.mem_cons] at hz
      rcases hz with h | h | h
      · exact ha'.1 z h
      · omega
      · have := hb'.1 z h; omega
    · by_cases h2 : y < x
      · rw [uni_gt x y a b h2, Asc, List.pairwise_cons]
        refine ⟨fun z hz => ?_, asc_uni (x :: a) b ha hb'.2⟩
        rw [mem_uni, List.mem_cons] at hz
        rcases hz with (h | h) | h
        · omega
        · have := ha'.1 z h; omega
        · exact hb'.1 z h
      · have e : x = y := by omega
        subst e
        rw [uni_eq, Asc, List.pairwise_cons]
        refine ⟨fun z hz => ?_, asc_uni a b ha'.2 hb'.2⟩
        rw [mem_uni] at hz
        rcases hz with h | h
        · exact ha'.1 z h
        · exact hb'.1 z h
  termination_by a b => a.length + b.length

theorem asc_filter {a : List Int} (p : Int → Bool) (h : Asc a) : Asc (a.filter p) := List.Pairwise.filter p h

theorem asc_nodup {a : List Int} (h : Asc a) : a.Nodup := h.imp fun hlt => by omega

end Li
namespace Li
/-- how many elements at the list's begin are less than x -/
def cnt (l : List Int) (x : Int) : Nat := (l.takeWhile (· < x)).length

theorem cnt_le (l : List Int) (x : Int) : cnt l x ≤ l.length := by
  unfold cnt
  exact (List.takeWhile_prefix _).length_le

theorem cnt_lt : ∀ (l : List Int) (x : Int) (i : Nat), i < cnt l x → l.getD i 0 < x
  | [], _, i, h => by simp [cnt] at h
  | y :: l, x, i, h => by
    unfold cnt at h
    rw [List.takeWhile_cons] at h
    by_cases hy : y < x
    · rw [if_pos (by simpa using hy)] at h
      cases i with
      | zero => simpa using hy
      | succ i => simpa using cnt_lt l x i (by unfold cnt; simpa using h)
    · rw [if_neg (by simpa using hy)] at h
      simp at h

theorem cnt_ge : ∀ (l : List Int) (x : Int), l.Pairwise (· ≤ ·) → ∀ i, cnt l x ≤ i → i < l.length → x ≤ l.getD i 0
  | [], _, _, i, _, h => by simp at h
  | y :: l, x, hp, i, h, hl => by
    rw [List.pairwise_cons] at hp
    unfold cnt at h
    rw [List.takeWhile_cons] at h
    by_cases hy : y < x
    · rw [if_pos (by simpa using hy)] at h
      cases i with
      | zero => simp at h
      | succ i => simpa using cnt_ge l x hp.2 i (by unfold cnt; simpa using h) (by simpa using hl)
    · cases i with
      | zero => simp; omega
      | succ i =>
        have hi : i < l.length := by simpa using hl
        have := hp.1 (l.getD i 0) (by rw [List.getD_eq_getElem?_getD, List.getElem?_eq_getElem hi]; simp)
        simp only [List.getD_cons_succ]
        omega
end Li
