/- What the printed functions that ListsPostings calls come to (SameInts, Check, Intersect, long, awake), with enough rounds.
   Conditions: lengths below 2^40 where a loop counts. -/
import Derived.Test.YtmeojlamadcedaaKx
import Derived.Test.YtmeojlamadcedaaLiPure
import Derived.Test.YtmeojlamadcedaaPoLp
namespace Go.Proofs.Ytmeojlamadcedaa.LEv
open Go.RowKit Go.Proofs.Ytmeojlamadcedaa.L Go.Proofs.Ytmeojlamadcedaa.Given Go.Proofs.YtmeojlamadcedaaW.PrintWords Go.Proofs.YtmeojlamadcedaaW.PrintLast Go.Proofs.YtmeojlamadcedaaW.PrintMore

theorem Ev_next {α : Type} {g : Nat → Option α} {r : α} (h : Ev (fun k => g (k + 1)) r) : Ev g r := Ev.step (fun _ => rfl) h

theorem w1 {i : Nat} (h : i < 1099511627776) : wrap64 ((i : Int) + 1) = ((i + 1 : Nat) : Int) := by unfold wrap64; omega

theorem rd_nat (l : List Int) (i : Nat) : rd l (i : Int) = l.getD i 0 := rfl
theorem drop_cons {α : Type} (l : List α) (i : Nat) (d : α) (h : i < l.length) : l.drop i = l.getD i d :: l.drop (i + 1) := by
  rw [List.drop_eq_getElem_cons h, List.getD_eq_getElem?_getD, List.getElem?_eq_getElem h]; rfl

/-! SameInts -/
theorem same_l (a b : List Int) (hl : a.length = b.length) (hn : a.length < 1099511627776) : ∀ (d i : Nat), i + d = a.length →
    Ev (fun k => corporaref12_SameInts.l0 k a b (a.length : Int) (i : Int)) (decide (a.drop i = b.drop i))
  | 0, i, h => by
    refine Ev_next ?_
    have c1 : ¬ ((i : Int) < (a.length : Int)) := by omega
    simp only [corporaref12_SameInts.l0, if_neg c1]
    rw [List.drop_of_length_le (by omega), List.drop_of_length_le (by omega)]
    exact Ev.now _
  | d + 1, i, h => by
    refine Ev_next ?_
    have c1 : (i : Int) < (a.length : Int) := by omega
    have c2 : (0 : Int) ≤ (i : Int) := by omega
    have c3 : (i : Int) < (b.length : Int) := by omega
    simp only [corporaref12_SameInts.l0, if_pos c1, if_pos c2, if_pos c3, rd_nat, w1 (show i < 1099511627776 by omega)]
    rw [drop_cons a i 0 (by omega), drop_cons b i 0 (by omega)]
    by_cases e : a.getD i 0 = b.getD i 0
    · simp only [if_pos e]
      have := same_l a b hl hn d (i + 1) (by omega)
      rw [show decide (a.getD i 0 :: a.drop (i + 1) = b.getD i 0 :: b.drop (i + 1)) = decide (a.drop (i + 1) = b.drop (i + 1)) from by rw [e]; simp]
      exact this
    · simp only [if_neg e]
      have : decide (a.getD i 0 :: a.drop (i + 1) = b.getD i 0 :: b.drop (i + 1)) = false := by
        rw [decide_eq_false_iff_not]; intro h; injection h with h1 _; exact e h1
      rw [this]
      exact Ev.now _

theorem same (a b : List Int) (hn : a.length < 1099511627776) : Ev (fun k => corporaref12_SameInts.f k a b) (decide (a = b)) := by
  unfold corporaref12_SameInts.f
  by_cases h : a.length = b.length
  · have c : (a.length : Int) = (b.length : Int) := by omega
    simp only [if_pos c]
    have := same_l a b h hn a.length 0 (by omega)
    simpa using this
  · have c : ¬ ((a.length : Int) = (b.length : Int)) := by omega
    simp only [if_neg c]
    have : decide (a = b) = false := by rw [decide_eq_false_iff_not]; intro e; exact h (by rw [e])
    rw [this]
    exact Ev.now _

/-! Check -/
/-- the errors of a list's elements: p is the element before, or -1 -/
def chkFrom : Int → List Int → Int
  | _, [] => 0
  | p, x :: l => if x < 0 ∨ 2147483647 < x then 8 else if x ≤ p then 6 else chkFrom x l
def chk (l : List Int) : Int := if 4096 < l.length then 2 else chkFrom (-1) l

def prev (l : List Int) : Nat → Int
  | 0 => -1
  | i + 1 => l.getD i 0

theorem chk_l (l : List Int) (hn : l.length ≤ 4096) : ∀ (d i : Nat), i + d = l.length →
    Ev (fun k => lists_Check.l0 k l l (l.length : Int) (i : Int)) (chkFrom (prev l i) (l.drop i))
  | 0, i, h => by
    refine Ev_next ?_
    have c1 : ¬ ((i : Int) < (l.length : Int)) := by omega
    simp only [lists_Check.l0, if_neg c1]
    rw [List.drop_of_length_le (by omega)]
    exact Ev.now _
  | d + 1, i, h => by
    refine Ev_next ?_
    have c1 : (i : Int) < (l.length : Int) := by omega
    have c2 : (0 : Int) ≤ (i : Int) := by omega
    simp only [lists_Check.l0, if_pos c1, if_pos c2]
    rw [rd_nat, drop_cons l i 0 (by omega)]
    by_cases n1 : l.getD i 0 < 0
    · simp only [if_pos n1]
      refine Ev_next ?_
      simp only [lists_Check.j1, reduceIte]
      rw [chkFrom, if_pos (.inl n1)]
      exact Ev.now _
    · simp only [if_neg n1]
      by_cases n2 : l.getD i 0 > 2147483647
      · refine Ev_next ?_
        have e : decide (l.getD i 0 > 2147483647) = true := decide_eq_true n2
        simp only [e, lists_Check.j1, reduceIte]
        rw [chkFrom, if_pos (.inr n2)]
        exact Ev.now _
      · refine Ev_next ?_
        have e : decide (l.getD i 0 > 2147483647) = false := decide_eq_false n2
        rw [chkFrom, if_neg (by omega)]
        have hrec := chk_l l hn d (i + 1) (by omega)
        rw [show prev l (i + 1) = l.getD i 0 from rfl] at hrec
        simp only [e, lists_Check.j1, Bool.false_eq_true, if_false, w1 (show i < 1099511627776 by omega)]
        cases i with
        | zero =>
          simp only [show ¬ (((0 : Nat) : Int) > 0) from by omega, if_false]
          rw [if_neg (by simp only [prev]; omega)]
          exact hrec
        | succ j =>
          have cj : ((j + 1 : Nat) : Int) > 0 := by omega
          have wj : wrap64 (((j + 1 : Nat) : Int) - 1) = (j : Int) := by unfold wrap64; omega
          have c3 : (0 : Int) ≤ (j : Int) := by omega
          have c4 : (j : Int) < (l.length : Int) := by omega
          simp only [if_pos cj, wj, if_pos c3, if_pos c4]
          rw [rd_nat, show prev l (j + 1) = l.getD j 0 from rfl]
          by_cases o : l.getD (j + 1) 0 ≤ l.getD j 0
          · rw [if_pos o]; simp only [if_pos o]; exact Ev.now _
          · rw [if_neg o]; simp only [if_neg o]; exact hrec

theorem check (l : List Int) : Ev (fun k => lists_Check.f k l) (chk l) := by
  unfold lists_Check.f chk
  by_cases h : 4096 < l.length
  · have c : (l.length : Int) > 4096 := by omega
    simp only [if_pos c, if_pos h]; exact Ev.now _
  · have c : ¬ ((l.length : Int) > 4096) := by omega
    simp only [if_neg c, if_neg h]
    have := chk_l l (by omega) l.length 0 (by omega)
    simpa [prev] using this

/-- valid lists -/
theorem chkFrom_zero : ∀ (l : List Int) (p : Int), chkFrom p l = 0 → Li.Asc l ∧ (∀ x ∈ l, p < x ∧ 0 ≤ x ∧ x ≤ 2147483647)
  | [], _, _ => ⟨List.Pairwise.nil, by simp⟩
  | x :: l, p, h => by
    rw [chkFrom] at h
    split at h
    · cases h
    · split at h
      · cases h
      · obtain ⟨h1, h2⟩ := chkFrom_zero l x h
        refine ⟨List.pairwise_cons.mpr ⟨fun y hy => (h2 y hy).1, h1⟩, fun y hy => ?_⟩
        rcases List.mem_cons.mp hy with rfl | hy
        · omega
        · have := h2 y hy; omega
theorem chk_zero {l : List Int} (h : chk l = 0) : Li.Asc l ∧ (∀ x ∈ l, 0 ≤ x ∧ x ≤ 2147483647) ∧ l.length ≤ 4096 := by
  unfold chk at h
  split at h
  · cases h
  · obtain ⟨h1, h2⟩ := chkFrom_zero l _ h
    exact ⟨h1, fun x hx => (h2 x hx).2, by omega⟩
theorem chkFrom_ok : ∀ (l : List Int) (p : Int), Li.Asc l → (∀ x ∈ l, p < x ∧ 0 ≤ x ∧ x ≤ 2147483647) → chkFrom p l = 0
  | [], _, _, _ => rfl
  | x :: l, p, h1, h2 => by
    have hx := h2 x (by simp)
    have h1' := List.pairwise_cons.mp h1
    rw [chkFrom, if_neg (by omega), if_neg (by omega)]
    exact chkFrom_ok l x h1'.2 fun y hy => by have := h1'.1 y hy; have := h2 y (by simp [hy]); omega
theorem chk_ok {l : List Int} (h1 : Li.Asc l) (h2 : ∀ x ∈ l, 0 ≤ x ∧ x ≤ 2147483647) (h3 : l.length ≤ 4096) : chk l = 0 := by
  unfold chk
  rw [if_neg (by omega)]
  exact chkFrom_ok l _ h1 fun x hx => by have := h2 x hx; omega

/-! checkAll -/
def chkAll : List (List Int) → Int
  | [] => 0
  | l :: ls => if chk l = 0 then chkAll ls else chk l

theorem rdL_nat (l : List (List Int)) (i : Nat) : L.rd_L1 l (i : Int) = l.getD i [] := rfl

theorem checkAll_l (ls : List (List Int)) (hn : ls.length < 1099511627776) : ∀ (d i : Nat), i + d = ls.length →
    Ev (fun k => lists_checkAll.l0 k ls (ls.length : Int) (i : Int)) (chkAll (ls.drop i))
  | 0, i, h => by
    refine Ev_next ?_
    have c1 : ¬ ((i : Int) < (ls.length : Int)) := by omega
    simp only [lists_checkAll.l0, if_neg c1]
    rw [List.drop_of_length_le (by omega)]
    exact Ev.now _
  | d + 1, i, h => by
    refine Ev_next ?_
    have c1 : (i : Int) < (ls.length : Int) := by omega
    have c2 : (0 : Int) ≤ (i : Int) := by omega
    simp only [lists_checkAll.l0, if_pos c1, if_pos c2, rdL_nat]
    rw [drop_cons ls i [] (by omega), chkAll]
    refine Ev.bind (check _) ?_
    by_cases e : chk (ls.getD i []) = 0
    · simp only [if_pos e, w1 (show i < 1099511627776 by omega)]
      exact checkAll_l ls hn d (i + 1) (by omega)
    · simp only [if_neg e]
      exact Ev.now _
theorem checkAll (ls : List (List Int)) (hn : ls.length < 1099511627776) : Ev (fun k => lists_checkAll.f k ls) (chkAll ls) := by
  unfold lists_checkAll.f
  have := checkAll_l ls hn ls.length 0 (by omega)
  simpa using this
theorem chkAll_zero : ∀ {ls : List (List Int)}, chkAll ls = 0 → ∀ l ∈ ls, chk l = 0
  | [], _, _, hl => by simp at hl
  | l :: ls, h, x, hx => by
    rw [chkAll] at h
    split at h
    · rename_i e
      rcases List.mem_cons.mp hx with rfl | hx
      · exact e
      · exact chkAll_zero h x hx
    · rename_i e; exact absurd h e

/-! split -/
theorem cnt_drop : ∀ (l : List Int) (x : Int), l.drop (Li.cnt l x) = l.dropWhile (· < x)
  | [], _ => rfl
  | y :: l, x => by
    unfold Li.cnt
    rw [List.takeWhile_cons, List.dropWhile_cons]
    by_cases hy : y < x
    · simp only [decide_eq_true hy, if_true, List.length_cons, List.drop_succ_cons]
      exact cnt_drop l x
    · simp only [decide_eq_false hy, Bool.false_eq_true, if_false, List.length_nil, List.drop_zero]

theorem mem_dropWhile {l : List Int} (x z : Int) (hz : x ≤ z) : z ∈ l.dropWhile (· < x) ↔ z ∈ l := by
  induction l with
  | nil => simp
  | cons y l ih =>
    rw [List.dropWhile_cons]
    by_cases hy : y < x
    · simp only [decide_eq_true hy, if_true]
      rw [ih, List.mem_cons]
      constructor
      · exact .inr
      · rintro (rfl | h)
        · omega
        · exact h
    · simp only [decide_eq_false hy, Bool.false_eq_true, if_false]

theorem head_dropWhile {l : List Int} (x : Int) (hl : Li.Asc l) : (0 < (l.dropWhile (· < x)).length ∧ (l.dropWhile (· < x)).getD 0 0 = x) ↔ x ∈ l := by
  constructor
  · rintro ⟨h1, h2⟩
    rw [← mem_dropWhile x x (Int.le_refl _)]
    rw [List.getD_eq_getElem?_getD, List.getElem?_eq_getElem h1] at h2
    have h3 : (l.dropWhile (· < x))[0] = x := by simpa using h2
    have h4 := List.getElem_mem h1
    rwa [h3] at h4
  · intro h
    rw [← mem_dropWhile x x (Int.le_refl _)] at h
    have ha : Li.Asc (l.dropWhile (· < x)) := hl.sublist (List.dropWhile_sublist _)
    cases hd : l.dropWhile (· < x) with
    | nil => rw [hd] at h; simp at h
    | cons y m =>
      refine ⟨by simp, ?_⟩
      rw [hd] at h ha
      have hy : ¬ y < x := by
        have h5 : ∀ (l : List Int), l.dropWhile (· < x) = y :: m → ¬ y < x := by
          intro l
          induction l with
          | nil => intro h; simp at h
          | cons z l ih =>
            intro h
            rw [List.dropWhile_cons] at h
            by_cases hz : z < x
            · simp only [decide_eq_true hz, if_true] at h; exact ih h
            · simp only [decide_eq_false hz, Bool.false_eq_true, if_false] at h
              injection h with h1 _
              omega
        exact h5 l hd
      rcases List.mem_cons.mp h with h | h
      · simp [h]
      · have := (List.pairwise_cons.mp ha).1 x h; omega

theorem split_l (a : List Int) (hn : a.length < 1099511627776) (ha : Li.Asc a) : ∀ (d i : Nat) (b p q : List Int), i + d = a.length → Li.Asc b → b.length < 1099511627776 →
    p.length ≤ i → q.length ≤ i →
    Ev (fun k => lists_split.l0 k b p q a (a.length : Int) (i : Int)) (p ++ (a.drop i).filter (fun x => decide (x ∈ b)), q ++ (a.drop i).filter (fun x => !decide (x ∈ b)))
  | 0, i, b, p, q, h, _, _, _, _ => by
    refine Ev_next ?_
    have c1 : ¬ ((i : Int) < (a.length : Int)) := by omega
    simp only [lists_split.l0, if_neg c1]
    rw [List.drop_of_length_le (by omega)]
    simp only [List.filter_nil, List.append_nil]
    exact Ev.now _
  | d + 1, i, b, p, q, h, hb, hbn, hp, hq => by
    refine Ev_next ?_
    have c1 : (i : Int) < (a.length : Int) := by omega
    have c2 : (0 : Int) ≤ (i : Int) := by omega
    have hdrop := drop_cons a i 0 (by omega)
    have had : Li.Asc (a.drop i) := ha.sublist (List.drop_sublist _ _)
    rw [hdrop] at had ⊢
    obtain ⟨hx1, _⟩ := List.pairwise_cons.mp had
    generalize hX : a.getD i 0 = x at *
    have hg : lists_gallop.f b x = some (Li.cnt b x : Int) := by
      unfold lists_gallop.f
      rw [if_pos ⟨hb.imp fun h => by omega, by omega⟩]
    have hcl := Li.cnt_le b x
    have c3 : (0 : Int) ≤ (Li.cnt b x : Int) := by omega
    have c4 : (Li.cnt b x : Int) ≤ (b.length : Int) := by omega
    simp only [lists_split.l0, if_pos c1, if_pos c2, rd_nat, hX, hg, Option.bind_some, if_pos c3, if_pos c4, Int.toNat_natCast, cnt_drop]
    have hb' : Li.Asc (b.dropWhile (· < x)) := hb.sublist (List.dropWhile_sublist _)
    have hbl : (b.dropWhile (· < x)).length ≤ b.length := (List.dropWhile_sublist _).length_le
    have hmem : ∀ z ∈ a.drop (i + 1), (z ∈ b.dropWhile (· < x) ↔ z ∈ b) := fun z hz => mem_dropWhile x z (by have := hx1 z hz; omega)
    have hf1 : (a.drop (i + 1)).filter (fun z => decide (z ∈ b.dropWhile (· < x))) = (a.drop (i + 1)).filter (fun z => decide (z ∈ b)) :=
      List.filter_congr fun z hz => by simp only [hmem z hz]
    have hf2 : (a.drop (i + 1)).filter (fun z => !decide (z ∈ b.dropWhile (· < x))) = (a.drop (i + 1)).filter (fun z => !decide (z ∈ b)) :=
      List.filter_congr fun z hz => by simp only [hmem z hz]
    have hhead := head_dropWhile x hb
    have c5 : p.length < 17592186044416 := by omega
    have c6 : q.length < 17592186044416 := by omega
    have r0 : rd (b.dropWhile (· < x)) 0 = (b.dropWhile (· < x)).getD 0 0 := rfl
    by_cases hin : x ∈ b
    · obtain ⟨e1, e2⟩ := hhead.mpr hin
      have e1' : (((b.dropWhile (· < x)).length : Nat) : Int) > 0 := by omega
      simp only [if_pos e1', r0, if_pos e2, if_pos c5, w1 (show i < 1099511627776 by omega)]
      have hrec := split_l a hn ha d (i + 1) (b.dropWhile (· < x)) (p ++ [x]) q (by omega) hb' (by omega) (by simp; omega) (by omega)
      rw [hf1, hf2] at hrec
      simpa [List.filter_cons, hin] using hrec
    · have hrec := split_l a hn ha d (i + 1) (b.dropWhile (· < x)) p (q ++ [x]) (by omega) hb' (by omega) (by omega) (by simp; omega)
      rw [hf1, hf2] at hrec
      have hres : (p ++ (x :: a.drop (i + 1)).filter (fun z => decide (z ∈ b)), q ++ (x :: a.drop (i + 1)).filter (fun z => !decide (z ∈ b)))
          = (p ++ (a.drop (i + 1)).filter (fun z => decide (z ∈ b)), q ++ [x] ++ (a.drop (i + 1)).filter (fun z => !decide (z ∈ b))) := by
        simp [hin]
      rw [hres]
      by_cases e1 : 0 < (b.dropWhile (· < x)).length
      · have e2 : ¬ ((b.dropWhile (· < x)).getD 0 0 = x) := fun e => hin (hhead.mp ⟨e1, e⟩)
        have e1' : (((b.dropWhile (· < x)).length : Nat) : Int) > 0 := by omega
        simp only [if_pos e1', r0, if_neg e2, if_pos c6, w1 (show i < 1099511627776 by omega)]
        exact hrec
      · have e1' : ¬ ((((b.dropWhile (· < x)).length : Nat) : Int) > 0) := by omega
        simp only [if_neg e1', if_pos c6, w1 (show i < 1099511627776 by omega)]
        exact hrec

theorem split (a b : List Int) (ha : Li.Asc a) (hb : Li.Asc b) (hn : a.length < 1099511627776) (hm : b.length < 1099511627776) :
    Ev (fun k => lists_split.f k a b) (a.filter (fun x => decide (x ∈ b)), a.filter (fun x => !decide (x ∈ b))) := by
  unfold lists_split.f
  have := split_l a hn ha a.length 0 b [] [] (by omega) hb hm (by simp) (by simp)
  simpa using this

/-! long -/
theorem w2 {i : Nat} (h : i < 1125899906842624) : wrap64 ((i : Int) + 1) = ((i + 1 : Nat) : Int) := by unfold wrap64; omega
def longS (ls : List (List Int)) : Bool := ls.any (fun l => decide (100 < l.length)) || decide (12 < ls.length)
theorem long_l (ls : List (List Int)) (hn : ls.length < 1125899906842624) : ∀ (d i : Nat), i + d = ls.length →
    Ev (fun k => corporalaw18_long.l0 k ls ls (ls.length : Int) (i : Int)) ((ls.drop i).any (fun l => decide (100 < l.length)) || decide (12 < ls.length))
  | 0, i, h => by
    refine Ev_next ?_
    have c1 : ¬ ((i : Int) < (ls.length : Int)) := by omega
    simp only [corporalaw18_long.l0, if_neg c1]
    rw [List.drop_of_length_le (by omega), List.any_nil, Bool.false_or, show decide (((ls.length : Nat) : Int) > 12) = decide (12 < ls.length) from decide_eq_decide.mpr (by omega)]
    exact Ev.now _
  | d + 1, i, h => by
    refine Ev_next ?_
    have c1 : (i : Int) < (ls.length : Int) := by omega
    have c2 : (0 : Int) ≤ (i : Int) := by omega
    simp only [corporalaw18_long.l0, if_pos c1, if_pos c2]
    rw [rdL_nat, drop_cons ls i [] (by omega), List.any_cons]
    by_cases e : 100 < (ls.getD i []).length
    · have e' : (((ls.getD i []).length : Nat) : Int) > 100 := by omega
      simp only [if_pos e', decide_eq_true e, Bool.true_or]
      exact Ev.now _
    · have e' : ¬ ((((ls.getD i []).length : Nat) : Int) > 100) := by omega
      simp only [if_neg e', decide_eq_false e, Bool.false_or, w2 (show i < 1125899906842624 by omega)]
      exact long_l ls hn d (i + 1) (by omega)
theorem long (ls : List (List Int)) (hn : ls.length < 1125899906842624) : Ev (fun k => corporalaw18_long.f k ls) (longS ls) := by
  unfold corporalaw18_long.f longS
  have := long_l ls hn ls.length 0 (by omega)
  simpa using this
theorem longS_false {ls : List (List Int)} (h : longS ls = false) : (∀ l ∈ ls, l.length ≤ 100) ∧ ls.length ≤ 12 := by
  unfold longS at h
  rw [Bool.or_eq_false_iff] at h
  refine ⟨fun l hl => ?_, by have := of_decide_eq_false h.2; omega⟩
  have := List.any_eq_false.mp h.1 l hl
  have := of_decide_eq_false (by simpa using this : decide (100 < l.length) = false)
  omega

/-! awake -/
theorem awake : Ev (fun k => corporalaw18_awake.f k) true := Ev.of corporalaw18_awake.mono (k := 40) (by decide +kernel)
def chooseS (a b : List Int) (c : Bool) : List Int × Int := if chkAll [a, b] = 0 then (a.filter (fun x => decide (x ∈ b) == c), 0) else ([], chkAll [a, b])
theorem chk2 {a b : List Int} (h : chkAll [a, b] = 0) : chk a = 0 ∧ chk b = 0 := ⟨chkAll_zero h a (by simp), chkAll_zero h b (by simp)⟩
theorem intersect (a b : List Int) : Ev (fun k => lists_Intersect.f k a b) (chooseS a b true) := by
  unfold lists_Intersect.f chooseS
  refine Ev.bind (checkAll [a, b] (by simp)) ?_
  by_cases e : chkAll [a, b] = 0
  · simp only [if_pos e]
    obtain ⟨ea, eb⟩ := chk2 e
    have h1 := chk_zero ea
    have h2 := chk_zero eb
    refine Ev.bind (split a b h1.1 h2.1 (by omega) (by omega)) ?_
    rw [show (fun x => decide (x ∈ b) == true) = (fun x => decide (x ∈ b)) from by funext x; simp]
    exact Ev.now _
  · simp only [if_neg e]
    exact Ev.now _

theorem chkAll_ok : ∀ {ls : List (List Int)}, (∀ l ∈ ls, chk l = 0) → chkAll ls = 0
  | [], _ => rfl
  | l :: ls, h => by rw [chkAll, if_pos (h l (by simp))]; exact chkAll_ok fun m hm => h m (by simp [hm])
theorem intersect_ok {a b : List Int} (ha : chk a = 0) (hb : chk b = 0) : Ev (fun k => lists_Intersect.f k a b) (Po.both a b, 0) := by
  have h := intersect a b
  unfold chooseS at h
  rwa [if_pos (chkAll_ok (by simp [ha, hb]))] at h
theorem same_ok {a b : List Int} (h : a = b) (hn : a.length < 1099511627776) : Ev (fun k => corporaref12_SameInts.f k a b) true := by
  have := same a b hn
  rwa [decide_eq_true h] at this
theorem err_ok {l : List Int} (h : chk l = 0) : Po.errF l = 0 := (Po.errF_zero l).2 ⟨(chk_zero h).2.2, Po.valid_of (chk_zero h).1 (chk_zero h).2.1⟩
end Go.Proofs.Ytmeojlamadcedaa.LEv
