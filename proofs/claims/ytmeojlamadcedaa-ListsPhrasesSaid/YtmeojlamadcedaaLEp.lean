/- The reference's Phrase comes to what the program's Phrase comes to.
   Conditions: fewer than 2^40 lists. -/
import Derived.Test.YtmeojlamadcedaaLEz
namespace Go.Proofs.Ytmeojlamadcedaa.LEv
open Go.RowKit Go.Proofs.Ytmeojlamadcedaa.L Go.Proofs.Ytmeojlamadcedaa.L2 Go.Proofs.Ytmeojlamadcedaa.Given Go.Proofs.YtmeojlamadcedaaW.PrintWords Go.Proofs.YtmeojlamadcedaaW.PrintLast Go.Proofs.YtmeojlamadcedaaW.PrintMore

theorem rdL2_nat (l : List (List Int)) (i : Nat) : L2.rd_L1 l (i : Int) = l.getD i [] := rfl

def okFrom (os : List Int) (p : Int) : Nat → Bool → List (List Int) → Bool
  | _, b, [] => b
  | i, b, l :: ls => okFrom os p (i + 1) (b && decide (p + os.getD i 0 ∈ l)) ls

section
variable (ls : List (List Int)) (os : List Int) (hv : ∀ l ∈ ls, Li.Asc l ∧ (∀ x ∈ l, 0 ≤ x ∧ x ≤ 2147483647) ∧ l.length ≤ 4096) (ho : ∀ x ∈ os, -4096 ≤ x ∧ x ≤ 4096) (hlen : ls.length = os.length) (hn : ls.length < 1099511627776)
include hv ho hlen hn

theorem rphr_in (l0 out : List Int) (n j : Nat) (p : Int) (hp1 : -4096 ≤ p) (hp2 : p ≤ 2147487743) (hout : out.length < 17592186044416) (r : List Int × Int) : ∀ (d i : Nat) (b : Bool), i + d = ls.length →
    Ev (fun k => corporaref18_Phrase.l1 k ls os (if okFrom os p i b (ls.drop i) = true then out ++ [p] else out) l0 (n : Int) (wrap64 ((j : Int) + 1))) r →
    Ev (fun k => corporaref18_Phrase.l2 k ls os out p b l0 (n : Int) (j : Int) ls (ls.length : Int) (i : Int)) r
  | 0, i, b, h, hr => by
    refine Ev_next ?_
    have c1 : ¬ ((i : Int) < (ls.length : Int)) := by omega
    simp only [corporaref18_Phrase.l2, if_neg c1, if_pos hout]
    rw [List.drop_of_length_le (by omega), okFrom] at hr
    cases b with
    | true => simp only [if_true] at hr ⊢; exact hr
    | false => simp only [Bool.false_eq_true, if_false] at hr ⊢; exact hr
  | d + 1, i, b, h, hr => by
    refine Ev_next ?_
    have c1 : (i : Int) < (ls.length : Int) := by omega
    have c2 : (0 : Int) ≤ (i : Int) := by omega
    have c3 : (i : Int) < (os.length : Int) := by omega
    simp only [corporaref18_Phrase.l2, if_pos c1, if_pos c2, if_pos c3]
    rw [drop_cons ls i [] (by omega), okFrom] at hr
    cases b with
    | false =>
      simp only [Bool.false_eq_true, if_false, w1 (show i < 1099511627776 by omega)]
      rw [Bool.false_and] at hr
      exact rphr_in l0 out n j p hp1 hp2 hout r d (i + 1) false (by omega) hr
    | true =>
      simp only [if_true]
      obtain ⟨a1, a2, a3⟩ := hv _ (show ls.getD i [] ∈ ls by rw [List.getD_eq_getElem?_getD, List.getElem?_eq_getElem (show i < ls.length by omega)]; exact List.getElem_mem _)
      obtain ⟨o1, o2⟩ := ho _ (getD_mem (show i < os.length by omega))
      have hw : wrap64 (p + rd os (i : Int)) = p + os.getD i 0 := by rw [rd_nat]; unfold wrap64; omega
      rw [rdL2_nat, hw]
      rw [Bool.true_and] at hr
      refine Ev.bind (has (ls.getD i []) _ (by omega)) ?_
      simp only [w1 (show i < 1099511627776 by omega)]
      exact rphr_in l0 out n j p hp1 hp2 hout r d (i + 1) _ (by omega) hr

theorem rphr_l (h0 : 0 < ls.length) : ∀ (d j : Nat) (out : List Int), j + d = (ls.getD 0 []).length → out.length ≤ j →
    Ev (fun k => corporaref18_Phrase.l1 k ls os out (ls.getD 0 []) ((ls.getD 0 []).length : Int) (j : Int))
      (out ++ (((ls.getD 0 []).drop j).map (· - os.getD 0 0)).filter (fun p => okFrom os p 0 (decide (p ≥ 0)) ls), 0) := by
  obtain ⟨a1, a2, a3⟩ := hv _ (show ls.getD 0 [] ∈ ls by rw [List.getD_eq_getElem?_getD, List.getElem?_eq_getElem h0]; exact List.getElem_mem _)
  obtain ⟨o1, o2⟩ := ho _ (getD_mem (show 0 < os.length by omega))
  intro d
  induction d with
  | zero =>
    intro j out h hout
    refine Ev_next ?_
    have c1 : ¬ ((j : Int) < ((ls.getD 0 []).length : Int)) := by omega
    simp only [corporaref18_Phrase.l1, if_neg c1]
    rw [List.drop_of_length_le (by omega), List.map_nil, List.filter_nil, List.append_nil]
    exact Ev.now _
  | succ d ih =>
    intro j out h hout
    refine Ev_next ?_
    have c1 : (j : Int) < ((ls.getD 0 []).length : Int) := by omega
    have c2 : (0 : Int) ≤ (j : Int) := by omega
    have c3 : (0 : Int) < (os.length : Int) := by omega
    obtain ⟨v1, v2⟩ := a2 _ (getD_mem (show j < (ls.getD 0 []).length by omega))
    have hw : wrap64 (rd (ls.getD 0 []) (j : Int) - rd os 0) = (ls.getD 0 []).getD j 0 - os.getD 0 0 := by rw [rd_nat, show rd os 0 = os.getD 0 0 from rfl]; exact sub_w v1 v2 o1 o2
    simp only [corporaref18_Phrase.l1, if_pos c1, if_pos c2, if_pos c3]
    rw [hw]
    have := rphr_in ls os hv ho hlen hn (ls.getD 0 []) out (ls.getD 0 []).length j ((ls.getD 0 []).getD j 0 - os.getD 0 0) (by omega) (by omega) (by omega)
      (out ++ (((ls.getD 0 []).drop j).map (· - os.getD 0 0)).filter (fun p => okFrom os p 0 (decide (p ≥ 0)) ls), 0) ls.length 0 (decide ((ls.getD 0 []).getD j 0 - os.getD 0 0 ≥ 0)) (by omega)
    refine this ?_
    rw [List.drop_zero, w1 (show j < 1099511627776 by omega), drop_cons (ls.getD 0 []) j 0 (by omega), List.map_cons, List.filter_cons]
    by_cases e : okFrom os ((ls.getD 0 []).getD j 0 - os.getD 0 0) 0 (decide ((ls.getD 0 []).getD j 0 - os.getD 0 0 ≥ 0)) ls = true
    · rw [if_pos e, if_pos e]
      have hi := ih (j + 1) (out ++ [(ls.getD 0 []).getD j 0 - os.getD 0 0]) (by omega) (by rw [List.length_append, List.length_singleton]; omega)
      rw [List.append_assoc] at hi
      exact hi
    · rw [if_neg e, if_neg e]
      exact ih (j + 1) _ (by omega) (by omega)
end

theorem rphr_off (ls : List (List Int)) (os : List Int) (hn : os.length < 1099511627776) (r : List Int × Int) (h0 : 0 < ls.length)
    (hr : badAny os = false → Ev (fun k => corporaref18_Phrase.l1 k ls os [] (ls.getD 0 []) ((ls.getD 0 []).length : Int) 0) r) : ∀ (d i : Nat), i + d = os.length → (os.take i).any (fun x => decide (x < -4096 ∨ 4096 < x)) = false →
    Ev (fun k => corporaref18_Phrase.l0 k ls os os (os.length : Int) (i : Int)) (if badAny os = true then ([], 1) else r)
  | 0, i, h, ht => by
    refine Ev_next ?_
    have c1 : ¬ ((i : Int) < (os.length : Int)) := by omega
    have c2 : (0 : Int) < (ls.length : Int) := by omega
    simp only [corporaref18_Phrase.l0, if_neg c1, if_pos c2]
    rw [List.take_of_length_le (by omega)] at ht
    have hb : badAny os = false := ht
    rw [hb]
    simp only [Bool.false_eq_true, if_false]
    exact hr hb
  | d + 1, i, h, ht => by
    refine Ev_next ?_
    have c1 : (i : Int) < (os.length : Int) := by omega
    have c2 : (0 : Int) ≤ (i : Int) := by omega
    simp only [corporaref18_Phrase.l0, if_pos c1, if_pos c2]
    rw [rd_nat]
    have hbad : os.getD i 0 < -4096 ∨ 4096 < os.getD i 0 → badAny os = true := fun e => List.any_eq_true.mpr ⟨_, getD_mem (show i < os.length by omega), decide_eq_true e⟩
    by_cases e1 : os.getD i 0 < -4096
    · rw [hbad (.inl e1)]
      simp only [if_pos e1, if_true]
      exact Ev.now _
    · simp only [if_neg e1]
      by_cases e2 : os.getD i 0 > 4096
      · rw [hbad (.inr e2)]
        simp only [if_pos e2, if_true]
        exact Ev.now _
      · simp only [if_neg e2, w1 (show i < 1099511627776 by omega)]
        refine rphr_off ls os hn r h0 hr d (i + 1) (by omega) ?_
        rw [List.take_succ_eq_append_getElem (by omega), List.any_append, ht, Bool.false_or, List.any_cons, List.any_nil, Bool.or_false, show os[i] = os.getD i 0 from by rw [List.getD_eq_getElem?_getD, List.getElem?_eq_getElem (by omega)]; rfl]
        exact decide_eq_false (fun h => h.elim e1 e2)

/-- both tell the same -/
theorem okFrom_iff (os : List Int) (p : Int) : ∀ (ls : List (List Int)) (i : Nat) (b : Bool), okFrom os p i b ls = (b && decide (∀ j, j < ls.length → p + os.getD (i + j) 0 ∈ ls.getD j []))
  | [], i, b => by simp [okFrom]
  | l :: ls, i, b => by
    rw [okFrom, okFrom_iff os p ls, Bool.and_assoc]
    congr 1
    rw [← Bool.decide_and]
    exact decide_eq_decide.mpr ⟨fun h j hj => by
      cases j with
      | zero => simpa using h.1
      | succ j => have := h.2 j (by simpa using hj); rw [show i + (j + 1) = i + 1 + j from by omega]; simpa using this,
      fun h => ⟨by simpa using h 0 (by simp), fun j hj => by have := h (j + 1) (by simpa using hj); rw [show i + (j + 1) = i + 1 + j from by omega] at this; simpa using this⟩⟩

theorem phrFrom_filter (os : List Int) : ∀ (ls : List (List Int)) (i : Nat) (o : List Int), i ≠ 0 → phrFrom os i o ls = o.filter (fun x => decide (∀ j, j < ls.length → x ∈ begins (ls.getD j []) (os.getD (i + j) 0)))
  | [], i, o, _ => by
    rw [phrFrom]
    exact (List.filter_eq_self.mpr fun x _ => by simp).symm
  | l :: ls, i, o, hi => by
    rw [phrFrom, if_neg hi, phrFrom_filter os ls (i + 1) _ (by omega), List.filter_filter]
    refine List.filter_congr fun x _ => ?_
    rw [← Bool.decide_and]
    exact decide_eq_decide.mpr ⟨fun h j hj => by
      cases j with
      | zero => simpa using h.2
      | succ j => have := h.1 j (by simpa using hj); rw [show i + (j + 1) = i + 1 + j from by omega]; simpa using this,
      fun h => ⟨fun j hj => by have := h (j + 1) (by simpa using hj); rw [show i + (j + 1) = i + 1 + j from by omega] at this; simpa using this, by simpa using h 0 (by simp)⟩⟩

theorem phr_same (os : List Int) (ls : List (List Int)) (h : 0 < ls.length) :
    ((ls.getD 0 []).map (· - os.getD 0 0)).filter (fun p => okFrom os p 0 (decide (p ≥ 0)) ls) = phrFrom os 0 [] ls := by
  cases ls with
  | nil => simp at h
  | cons l ls =>
    rw [phrFrom, if_pos rfl, phrFrom_filter os ls 1 _ (by omega)]
    show (l.map _).filter _ = _
    unfold begins
    rw [List.filter_filter]
    refine List.filter_congr fun p hp => ?_
    obtain ⟨x, hx, rfl⟩ := List.mem_map.mp hp
    rw [okFrom_iff, ← Bool.decide_and, ← Bool.decide_and]
    exact decide_eq_decide.mpr ⟨fun h => ⟨fun j hj => (mem_begins _ _ _).mpr ⟨h.1, by have := h.2 (j + 1) (by simpa using hj); rw [show 0 + (j + 1) = 1 + j from by omega] at this; simpa using this⟩, h.1⟩,
      fun h => ⟨h.2, fun j hj => by
        cases j with
        | zero => show x - os.getD 0 0 + os.getD 0 0 ∈ l; rwa [Int.sub_add_cancel]
        | succ j => have := ((mem_begins _ _ _).mp (h.1 j (by simpa using hj))).2; rw [show 0 + (j + 1) = 1 + j from by omega]; simpa using this⟩⟩

theorem rphr_j (ls : List (List Int)) (os : List Int) (hn : ls.length < 1099511627776) (c : Bool) (hc : c = decide (ls.length = 0 ∨ ls.length ≠ os.length)) :
    Ev (fun k => corporaref18_Phrase.j0 k ls os c) (phraseS ls os) := by
  refine Ev_next ?_
  simp only [corporaref18_Phrase.j0]
  unfold phraseS
  by_cases e : ls.length = 0 ∨ ls.length ≠ os.length
  · rw [hc, decide_eq_true e, if_pos e]
    simp only [if_true]
    exact Ev.now _
  · rw [hc, decide_eq_false e, if_neg e]
    simp only [Bool.false_eq_true, if_false]
    have hlen : ls.length = os.length := by omega
    refine Ev.bind (rcheckAll ls hn) ?_
    by_cases e2 : chkAll ls = 0
    · simp only [if_pos e2]
      refine rphr_off ls os (by omega) _ (by omega) (fun hb => ?_) os.length 0 (by omega) (by simp)
      have := rphr_l ls os (valid_all e2) (badAny_false hb) hlen hn (by omega) (ls.getD 0 []).length 0 [] (by omega) (by simp)
      rw [List.drop_zero, List.nil_append, phr_same os ls (by omega)] at this
      exact this
    · simp only [if_neg e2]
      exact Ev.now _

theorem rphrase (ls : List (List Int)) (os : List Int) (hn : ls.length < 1099511627776) : Ev (fun k => corporaref18_Phrase.f k ls os) (phraseS ls os) := by
  unfold corporaref18_Phrase.f
  by_cases e : ls.length = 0
  · have e' : (ls.length : Int) = 0 := by omega
    simp only [if_pos e']
    exact rphr_j ls os hn true (decide_eq_true (.inl e)).symm
  · have e' : ¬ ((ls.length : Int) = 0) := by omega
    simp only [if_neg e']
    refine rphr_j ls os hn _ ?_
    by_cases q : (ls.length : Int) = (os.length : Int)
    · rw [show ((ls.length : Int) != (os.length : Int)) = false from bne_eq_false_iff_eq.mpr q]
      exact (decide_eq_false (by omega)).symm
    · rw [show ((ls.length : Int) != (os.length : Int)) = true from bne_iff_ne.mpr q]
      exact (decide_eq_true (.inr (by omega))).symm

theorem phrFrom_len (os : List Int) (ls : List (List Int)) (h : ∀ l ∈ ls, l.length ≤ 4096) : (phrFrom os 0 [] ls).length ≤ 4096 := by
  cases ls with
  | nil => simp [phrFrom]
  | cons l ls =>
    rw [phrFrom, if_pos rfl, phrFrom_filter os ls 1 _ (by omega)]
    exact Nat.le_trans (List.length_filter_le _ _) (Nat.le_trans (len_begins _ _) (h l (by simp)))

theorem phraseS_len (ls : List (List Int)) (os : List Int) : (phraseS ls os).1.length ≤ 4096 := by
  unfold phraseS
  split
  · simp
  · split
    · rename_i e
      split
      · simp
      · exact phrFrom_len os ls fun l hl => (valid_all e l hl).2.2
    · simp

end Go.Proofs.Ytmeojlamadcedaa.LEv
