/- The reference's insert and Merge, and that they come to what the program's union and Merge come to.
   Conditions: ascending lists; few lists. -/
import Derived.Test.YtmeojlamadcedaaLEw
namespace Go.Proofs.Ytmeojlamadcedaa.LEv
open Go.RowKit Go.Proofs.Ytmeojlamadcedaa.L Go.Proofs.Ytmeojlamadcedaa.Given Go.Proofs.YtmeojlamadcedaaW.PrintWords Go.Proofs.YtmeojlamadcedaaW.PrintLast Go.Proofs.YtmeojlamadcedaaW.PrintMore

/-! insert -/
def ins (l : List Int) (x : Int) : List Int := l.filter (fun y => decide (y < x)) ++ x :: l.filter (fun y => decide (x < y))

theorem ins_split (p q : List Int) (x : Int) (hp : ∀ y ∈ p, y < x) (hq : ∀ y ∈ q, x < y) : ins (p ++ q) x = p ++ x :: q ∧ ins (p ++ x :: q) x = p ++ x :: q := by
  have e1 : p.filter (fun y => decide (y < x)) = p := List.filter_eq_self.mpr fun y hy => decide_eq_true (hp y hy)
  have e2 : q.filter (fun y => decide (y < x)) = [] := List.filter_eq_nil_iff.mpr fun y hy => by have := hq y hy; simp; omega
  have e3 : p.filter (fun y => decide (x < y)) = [] := List.filter_eq_nil_iff.mpr fun y hy => by have := hp y hy; simp; omega
  have e4 : q.filter (fun y => decide (x < y)) = q := List.filter_eq_self.mpr fun y hy => decide_eq_true (hq y hy)
  unfold ins
  constructor
  · rw [List.filter_append, List.filter_append, e1, e2, e3, e4, List.append_nil, List.nil_append]
  · rw [List.filter_append, List.filter_append, List.filter_cons, List.filter_cons, e1, e2, e3, e4]
    simp

theorem getD_at (l : List Int) (i : Nat) (h : i < l.length) : l.getD i 0 = l[i] := by
  rw [List.getD_eq_getElem?_getD, List.getElem?_eq_getElem h]; rfl

theorem asc_take {l : List Int} (ha : Li.Asc l) (i : Nat) (hi : i < l.length) : ∀ y ∈ l.take i, y < l.getD i 0 := by
  intro y hy
  obtain ⟨j, hj, rfl⟩ := List.mem_iff_getElem.mp hy
  have hj' : j < i := by rw [List.length_take] at hj; omega
  rw [List.getElem_take, getD_at l i hi]
  exact List.pairwise_iff_getElem.mp ha j i (by omega) hi hj'

theorem insert_end (l : List Int) (x : Int) (i : Nat) (hi : i ≤ l.length) (hn : l.length < 1099511627776) :
    (if 0 ≤ (i : Int) then (if (i : Int) ≤ (l.length : Int) then ((some (l.take (i : Int).toNat : List Int)).bind fun y261 => (if ([] : List Int).length + y261.length < 17592186044416 then ((some (([] : List Int) ++ y261 : List Int)).bind fun y266 => ((some (([x] : List Int) : List Int)).bind fun y269 => (if y266.length + y269.length < 17592186044416 then ((some (y266 ++ y269 : List Int)).bind fun y272 => ((some (l.drop (i : Int).toNat : List Int)).bind fun y275 => (if y272.length + y275.length < 17592186044416 then (some (y272 ++ y275)) else (none)))) else (none)))) else (none))) else (none)) else (none))
      = some (l.take i ++ x :: l.drop i) := by
  have c1 : (0 : Int) ≤ (i : Int) := by omega
  have c2 : (i : Int) ≤ (l.length : Int) := by omega
  have c3 : (0 : Nat) + (l.take i).length < 17592186044416 := by rw [List.length_take]; omega
  have c4 : (l.take i).length + [x].length < 17592186044416 := by rw [List.length_take]; simp; omega
  have c5 : (l.take i ++ [x]).length + (l.drop i).length < 17592186044416 := by rw [List.length_append, List.length_take, List.length_drop]; simp; omega
  simp only [if_pos c1, if_pos c2, Int.toNat_natCast, Option.bind_some, List.length_nil, if_pos c3, List.nil_append, if_pos c4, if_pos c5]
  simp

theorem insert_l (l : List Int) (x : Int) (ha : Li.Asc l) (hn : l.length < 1099511627776) : ∀ (i : Nat), i ≤ l.length → (∀ y ∈ l.drop i, x < y) →
    Ev (fun k => corporaref18_insert.l0 k l x (i : Int)) (ins l x)
  | 0, h, hd => by
    refine Ev_next ?_
    have c1 : ¬ (((0 : Nat) : Int) > 0) := by omega
    simp only [corporaref18_insert.l0, if_neg c1]
    rw [insert_end l x 0 h hn]
    have := (ins_split [] l x (by simp) (by simpa using hd)).1
    simp only [List.nil_append] at this
    rw [this]
    exact Ev.now _
  | i + 1, h, hd => by
    refine Ev_next ?_
    have c1 : ((i + 1 : Nat) : Int) > 0 := by omega
    have c0 : wrap64 (((i + 1 : Nat) : Int) - 1) = (i : Int) := by unfold wrap64; omega
    have c2 : (0 : Int) ≤ (i : Int) := by omega
    have c3 : (i : Int) < (l.length : Int) := by omega
    simp only [corporaref18_insert.l0, if_pos c1, c0, if_pos c2, if_pos c3]
    have htake := asc_take ha i (by omega)
    have hdrop := drop_cons l i 0 (by omega)
    have hl : l = l.take i ++ l.getD i 0 :: l.drop (i + 1) := by rw [← hdrop, List.take_append_drop]
    rw [rd_nat]
    by_cases e1 : l.getD i 0 > x
    · simp only [if_pos e1]
      refine insert_l l x ha hn i (by omega) fun y hy => ?_
      rw [hdrop, List.mem_cons] at hy
      rcases hy with rfl | hy
      · exact e1
      · exact hd y hy
    · simp only [if_neg e1]
      by_cases e2 : l.getD i 0 = x
      · simp only [if_pos e2]
        rw [e2] at hl htake
        have := (ins_split (l.take i) (l.drop (i + 1)) x htake hd).2
        rw [← hl] at this
        rw [this]
        exact Ev.now _
      · simp only [if_neg e2]
        rw [insert_end l x (i + 1) h hn]
        have hp : ∀ y ∈ l.take (i + 1), y < x := by
          intro y hy
          have et : l.take (i + 1) = l.take i ++ [l.getD i 0] := by
            rw [List.take_succ_eq_append_getElem (by omega), getD_at l i (by omega)]
          rw [et, List.mem_append, List.mem_singleton] at hy
          rcases hy with hy | rfl
          · have := htake y hy; omega
          · omega
        have := (ins_split (l.take (i + 1)) (l.drop (i + 1)) x hp hd).1
        rw [List.take_append_drop] at this
        rw [this]
        exact Ev.now _

theorem insert (l : List Int) (x : Int) (ha : Li.Asc l) (hn : l.length < 1099511627776) : Ev (fun k => corporaref18_insert.f k l x) (ins l x) := by
  unfold corporaref18_insert.f
  exact insert_l l x ha hn l.length (Nat.le_refl _) (by simp)

theorem mem_ins (l : List Int) (x z : Int) : z ∈ ins l x ↔ z ∈ l ∨ z = x := by
  unfold ins
  simp only [List.mem_append, List.mem_filter, List.mem_cons, decide_eq_true_eq]
  constructor
  · rintro (⟨h, _⟩ | h | ⟨h, _⟩)
    · exact .inl h
    · exact .inr h
    · exact .inl h
  · rintro (h | h)
    · rcases Int.lt_trichotomy z x with h1 | h1 | h1
      · exact .inl ⟨h, h1⟩
      · exact .inr (.inl h1)
      · exact .inr (.inr ⟨h, h1⟩)
    · exact .inr (.inl h)

theorem asc_ins {l : List Int} (x : Int) (h : Li.Asc l) : Li.Asc (ins l x) := by
  unfold ins
  rw [Li.Asc, List.pairwise_append, List.pairwise_cons]
  refine ⟨Li.asc_filter _ h, ⟨fun y hy => by have := (List.mem_filter.mp hy).2; simpa using this, Li.asc_filter _ h⟩, fun y hy z hz => ?_⟩
  have h1 : y < x := by simpa using (List.mem_filter.mp hy).2
  rcases List.mem_cons.mp hz with rfl | hz
  · exact h1
  · have h2 : x < z := by simpa using (List.mem_filter.mp hz).2
    omega

theorem len_ins (l : List Int) (x : Int) : (ins l x).length ≤ l.length + 1 := by
  have h : (l.filter (fun y => decide (y < x))).length + (l.filter (fun y => decide (x < y))).length ≤ l.length := by
    induction l with
    | nil => simp
    | cons y l ih =>
      rw [List.filter_cons, List.filter_cons]
      by_cases h1 : y < x
      · rw [if_pos (by simpa using h1), if_neg (by simp; omega)]; simp only [List.length_cons]; omega
      · by_cases h2 : x < y
        · rw [if_neg (by simpa using h1), if_pos (by simpa using h2)]; simp only [List.length_cons]; omega
        · rw [if_neg (by simpa using h1), if_neg (by simpa using h2)]; simp only [List.length_cons]; omega
  unfold ins
  rw [List.length_append, List.length_cons]
  omega

theorem fold_ins : ∀ (l o : List Int), Li.Asc o → Li.Asc (l.foldl ins o) ∧ (∀ z, z ∈ l.foldl ins o ↔ z ∈ o ∨ z ∈ l) ∧ (l.foldl ins o).length ≤ o.length + l.length
  | [], o, h => ⟨h, by simp, by simp⟩
  | x :: l, o, h => by
    obtain ⟨h1, h2, h3⟩ := fold_ins l (ins o x) (asc_ins x h)
    have := len_ins o x
    refine ⟨h1, fun z => ?_, by simp only [List.foldl_cons, List.length_cons]; omega⟩
    rw [List.foldl_cons, h2, mem_ins, List.mem_cons, or_assoc]

theorem fold_ins_uni (l o : List Int) (hl : Li.Asc l) (ho : Li.Asc o) : l.foldl ins o = Li.uni o l := by
  obtain ⟨h1, h2, _⟩ := fold_ins l o ho
  exact Li.asc_ext h1 (Li.asc_uni o l ho hl) fun z => by rw [h2, Li.mem_uni]

/-! the reference's Merge -/
theorem rmerge_in (ls : List (List Int)) (n i : Nat) (l : List Int) (hn : l.length < 1099511627776) (r : List Int × Int)
    (hrest : Ev (fun k => corporaref18_Merge.l0 k (l.foldl ins ((l.take 0).foldl ins [])) ls n (wrap64 ((i : Int) + 1))) r → True) :
    ∀ (d j : Nat) (o : List Int), j + d = l.length → Li.Asc o → o.length + d < 1099511627776 →
    Ev (fun k => corporaref18_Merge.l0 k ((l.drop j).foldl ins o) ls n (wrap64 ((i : Int) + 1))) r →
    Ev (fun k => corporaref18_Merge.l1 k o ls n (i : Int) l (l.length : Int) (j : Int)) r
  | 0, j, o, h, _, _, hr => by
    refine Ev_next ?_
    have c1 : ¬ ((j : Int) < (l.length : Int)) := by omega
    simp only [corporaref18_Merge.l1, if_neg c1]
    rw [List.drop_of_length_le (by omega)] at hr
    exact hr
  | d + 1, j, o, h, ho, hl, hr => by
    refine Ev_next ?_
    have c1 : (j : Int) < (l.length : Int) := by omega
    have c2 : (0 : Int) ≤ (j : Int) := by omega
    simp only [corporaref18_Merge.l1, if_pos c1, if_pos c2]
    rw [rd_nat]
    refine Ev.bind (insert o _ ho (by omega)) ?_
    simp only [w1 (show j < 1099511627776 by omega)]
    have := len_ins o (l.getD j 0)
    refine rmerge_in ls n i l hn r hrest d (j + 1) _ (by omega) (asc_ins _ ho) (by omega) ?_
    rw [drop_cons l j 0 (by omega), List.foldl_cons] at hr
    exact hr

theorem rmerge_l (ls : List (List Int)) (hn : ls.length ≤ 1000) (hv : ∀ l ∈ ls, l.length ≤ 4096) : ∀ (d i : Nat) (o : List Int), i + d = ls.length → Li.Asc o → o.length ≤ 4096 * i →
    Ev (fun k => corporaref18_Merge.l0 k o ls (ls.length : Int) (i : Int)) (if 4096 < ((ls.drop i).foldl (fun o l => l.foldl ins o) o).length then ([], 2) else ((ls.drop i).foldl (fun o l => l.foldl ins o) o, 0))
  | 0, i, o, h, _, _ => by
    refine Ev_next ?_
    have c1 : ¬ ((i : Int) < (ls.length : Int)) := by omega
    simp only [corporaref18_Merge.l0, if_neg c1]
    rw [List.drop_of_length_le (by omega), List.foldl_nil]
    by_cases e : 4096 < o.length
    · have e' : ((o.length : Nat) : Int) > 4096 := by omega
      simp only [if_pos e, if_pos e']; exact Ev.now _
    · have e' : ¬ (((o.length : Nat) : Int) > 4096) := by omega
      simp only [if_neg e, if_neg e']; exact Ev.now _
  | d + 1, i, o, h, ho, hl => by
    refine Ev_next ?_
    have c1 : (i : Int) < (ls.length : Int) := by omega
    have c2 : (0 : Int) ≤ (i : Int) := by omega
    simp only [corporaref18_Merge.l0, if_pos c1, if_pos c2]
    rw [rdL_nat, drop_cons ls i [] (by omega), List.foldl_cons]
    have hx : (ls.getD i []).length ≤ 4096 := by
      rw [List.getD_eq_getElem?_getD, List.getElem?_eq_getElem (by omega : i < ls.length)]
      exact hv _ (List.getElem_mem _)
    obtain ⟨f1, _, f3⟩ := fold_ins (ls.getD i []) o ho
    refine rmerge_in ls _ i _ (by omega) _ (fun _ => trivial) (ls.getD i []).length 0 o (by omega) ho (by omega) ?_
    rw [List.drop_zero, w1 (show i < 1099511627776 by omega)]
    exact rmerge_l ls hn hv d (i + 1) _ (by omega) f1 (by omega)

def rmergeS (ls : List (List Int)) : List Int × Int :=
  if chkAll ls = 0 then (if 4096 < (ls.foldl (fun o l => l.foldl ins o) []).length then ([], 2) else (ls.foldl (fun o l => l.foldl ins o) [], 0)) else ([], chkAll ls)

theorem rmerge (ls : List (List Int)) (hn : ls.length ≤ 1000) : Ev (fun k => corporaref18_Merge.f k ls) (rmergeS ls) := by
  unfold corporaref18_Merge.f rmergeS
  refine Ev.bind (rcheckAll ls (by omega)) ?_
  by_cases e : chkAll ls = 0
  · simp only [if_pos e]
    have := rmerge_l ls hn (fun l hl => (chk_zero (chkAll_zero e l hl)).2.2) ls.length 0 [] (by omega) List.Pairwise.nil (by simp)
    simpa using this
  · simp only [if_neg e]
    exact Ev.now _

/-- where the lists have few elements together, both tell the same -/
theorem merge_same : ∀ (ls : List (List Int)) (o : List Int), Li.Asc o → (∀ l ∈ ls, Li.Asc l ∧ l.length ≤ 100) → o.length + 100 * ls.length ≤ 4096 →
    mergeFrom o ls = (ls.foldl (fun o l => l.foldl ins o) o, 0) ∧ (ls.foldl (fun o l => l.foldl ins o) o).length ≤ 4096
  | [], o, _, _, hn => ⟨rfl, by simpa using hn⟩
  | l :: ls, o, ho, hl, hn => by
    obtain ⟨a1, a2⟩ := hl l (by simp)
    have hu := uni_len o l
    rw [List.length_cons] at hn
    rw [mergeFrom, if_neg (by omega), List.foldl_cons, fold_ins_uni l o a1 ho]
    exact merge_same ls _ (Li.asc_uni o l ho a1) (fun m hm => hl m (by simp [hm])) (by omega)

theorem mergeS_same (ls : List (List Int)) (hl : ∀ l ∈ ls, l.length ≤ 100) (hn : ls.length ≤ 12) : mergeS ls = rmergeS ls := by
  unfold mergeS rmergeS
  by_cases e : chkAll ls = 0
  · simp only [if_pos e]
    obtain ⟨h1, h2⟩ := merge_same ls [] List.Pairwise.nil (fun l h => ⟨(chk_zero (chkAll_zero e l h)).1, hl l h⟩) (by simp; omega)
    rw [h1, if_neg (by omega)]
  · simp only [if_neg e]

end Go.Proofs.Ytmeojlamadcedaa.LEv
