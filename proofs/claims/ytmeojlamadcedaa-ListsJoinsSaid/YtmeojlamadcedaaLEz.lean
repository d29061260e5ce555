/- Phrase, the program's and the reference's: what they come to, and that both come to the same.
   Conditions: at most 1000 lists and offsets where the lengths fit. -/
import Derived.Test.YtmeojlamadcedaaLEy
namespace Go.Proofs.Ytmeojlamadcedaa.LEv
open Go.RowKit Go.Proofs.Ytmeojlamadcedaa.L Go.Proofs.Ytmeojlamadcedaa.L2 Go.Proofs.Ytmeojlamadcedaa.Given Go.Proofs.YtmeojlamadcedaaW.PrintWords Go.Proofs.YtmeojlamadcedaaW.PrintLast Go.Proofs.YtmeojlamadcedaaW.PrintMore

def begins (l : List Int) (o : Int) : List Int := (l.map (· - o)).filter (fun p => decide (0 ≤ p))
def phrFrom (os : List Int) : Nat → List Int → List (List Int) → List Int
  | _, o, [] => o
  | i, o, l :: ls => phrFrom os (i + 1) (if i = 0 then begins l (os.getD i 0) else o.filter (fun x => decide (x ∈ begins l (os.getD i 0)))) ls
def badAny (os : List Int) : Bool := os.any (fun x => decide (x < -4096 ∨ 4096 < x))
def phraseS (ls : List (List Int)) (os : List Int) : List Int × Int :=
  if ls.length = 0 ∨ ls.length ≠ os.length then ([], 15) else if chkAll ls = 0 then (if badAny os = true then ([], 1) else (phrFrom os 0 [] ls, 0)) else ([], chkAll ls)

theorem sub_w {x b : Int} (h0 : 0 ≤ x) (h1 : x ≤ 2147483647) (h2 : -4096 ≤ b) (h3 : b ≤ 4096) : wrap64 (x - b) = x - b := by unfold wrap64; omega

theorem begins_cons (x : Int) (l : List Int) (o : Int) : begins (x :: l) o = (if 0 ≤ x - o then [x - o] else []) ++ begins l o := by
  unfold begins
  rw [List.map_cons, List.filter_cons]
  by_cases e : 0 ≤ x - o
  · rw [if_pos (by simpa using e), if_pos e]; rfl
  · rw [if_neg (by simpa using e), if_neg e]; rfl

theorem asc_begins {l : List Int} (o : Int) (h : Li.Asc l) : Li.Asc (begins l o) := by
  unfold begins
  refine Li.asc_filter _ ?_
  rw [Li.Asc, List.pairwise_map]
  exact h.imp fun hlt => by omega
theorem len_begins (l : List Int) (o : Int) : (begins l o).length ≤ l.length := by
  unfold begins
  have := List.length_filter_le (fun p : Int => decide (0 ≤ p)) (l.map (· - o))
  rwa [List.length_map] at this
theorem mem_begins (l : List Int) (o p : Int) : p ∈ begins l o ↔ 0 ≤ p ∧ p + o ∈ l := by
  unfold begins
  rw [List.mem_filter, List.mem_map]
  constructor
  · rintro ⟨⟨x, hx, rfl⟩, h⟩
    exact ⟨by simpa using h, by rwa [Int.sub_add_cancel]⟩
  · rintro ⟨h1, h2⟩
    exact ⟨⟨p + o, h2, by omega⟩, by simpa using h1⟩

section
variable (ls : List (List Int)) (os : List Int) (hv : ∀ l ∈ ls, Li.Asc l ∧ (∀ x ∈ l, 0 ≤ x ∧ x ≤ 2147483647) ∧ l.length ≤ 4096) (ho : ∀ x ∈ os, -4096 ≤ x ∧ x ≤ 4096) (hlen : ls.length = os.length) (hn : ls.length < 1099511627776)
include hv ho hlen hn

theorem phr_in (i : Nat) (hi : i < ls.length) (out : List Int) (r : List Int × Int) (hout : i ≠ 0 → Li.Asc out ∧ out.length ≤ 4096)
    (hr : Ev (fun k => lists_Phrase.l1 k os (if i = 0 then begins (ls.getD i []) (os.getD i 0) else out.filter (fun x => decide (x ∈ begins (ls.getD i []) (os.getD i 0)))) ls (ls.length : Int) ((i + 1 : Nat) : Int)) r) :
    ∀ (d j : Nat) (acc : List Int), j + d = (ls.getD i []).length → acc.length ≤ j → acc ++ begins ((ls.getD i []).drop j) (os.getD i 0) = begins (ls.getD i []) (os.getD i 0) →
    Ev (fun k => lists_Phrase.l2 k os out (i : Int) acc ls (ls.length : Int) (i : Int) (ls.getD i []) ((ls.getD i []).length : Int) (j : Int)) r := by
  obtain ⟨a1, a2, a3⟩ := hv _ (show ls.getD i [] ∈ ls by rw [List.getD_eq_getElem?_getD, List.getElem?_eq_getElem hi]; exact List.getElem_mem _)
  obtain ⟨o1, o2⟩ := ho _ (getD_mem (show i < os.length by omega))
  generalize ls.getD i [] = l at *
  generalize ho : os.getD i 0 = o at *
  intro d
  induction d with
  | zero =>
    intro j acc h hacc hb
    refine Ev_next ?_
    have c1 : ¬ ((j : Int) < (l.length : Int)) := by omega
    rw [List.drop_of_length_le (by omega), show begins [] o = [] from rfl, List.append_nil] at hb
    subst hb
    simp only [lists_Phrase.l2, if_neg c1, w1 (show i < 1099511627776 by omega)]
    by_cases e : i = 0
    · have e' : (i : Int) = 0 := by omega
      simp only [if_pos e']
      rw [if_pos e] at hr
      exact hr
    · have e' : ¬ ((i : Int) = 0) := by omega
      simp only [if_neg e']
      rw [if_neg e] at hr
      obtain ⟨h1, h2⟩ := hout e
      have := len_begins l o
      refine Ev.bind (split out (begins l o) h1 (asc_begins o a1) (by omega) (by omega)) ?_
      exact hr
  | succ d ih =>
    intro j acc h hacc hb
    refine Ev_next ?_
    have c1 : (j : Int) < (l.length : Int) := by omega
    have c2 : (0 : Int) ≤ (j : Int) := by omega
    have c3 : (0 : Int) ≤ (i : Int) := by omega
    have c4 : (i : Int) < (os.length : Int) := by omega
    have c5 : acc.length < 17592186044416 := by omega
    obtain ⟨v1, v2⟩ := a2 _ (getD_mem (show j < l.length by omega))
    have hw : wrap64 (rd l (j : Int) - rd os (i : Int)) = l.getD j 0 - o := by rw [rd_nat, rd_nat, ho]; exact sub_w v1 v2 o1 o2
    simp only [lists_Phrase.l2, if_pos c1, if_pos c2, if_pos c3, if_pos c4, if_pos c5]
    rw [hw, w1 (show j < 1099511627776 by omega)]
    rw [drop_cons l j 0 (by omega), begins_cons] at hb
    by_cases e : l.getD j 0 - o ≥ 0
    · simp only [if_pos e]
      rw [if_pos e, ← List.append_assoc] at hb
      exact ih (j + 1) _ (by omega) (by simp; omega) hb
    · simp only [if_neg e]
      rw [if_neg e, List.nil_append] at hb
      exact ih (j + 1) _ (by omega) (by omega) hb

theorem phr_l : ∀ (d i : Nat) (out : List Int), i + d = ls.length → (i ≠ 0 → Li.Asc out ∧ out.length ≤ 4096) →
    Ev (fun k => lists_Phrase.l1 k os out ls (ls.length : Int) (i : Int)) (phrFrom os i out (ls.drop i), 0)
  | 0, i, out, h, _ => by
    refine Ev_next ?_
    have c1 : ¬ ((i : Int) < (ls.length : Int)) := by omega
    simp only [lists_Phrase.l1, if_neg c1]
    rw [List.drop_of_length_le (by omega), phrFrom]
    exact Ev.now _
  | d + 1, i, out, h, hout => by
    refine Ev_next ?_
    have c1 : (i : Int) < (ls.length : Int) := by omega
    have c2 : (0 : Int) ≤ (i : Int) := by omega
    simp only [lists_Phrase.l1, if_pos c1, if_pos c2]
    rw [rdL_nat, drop_cons ls i [] (by omega), phrFrom]
    refine phr_in ls os hv ho hlen hn i (by omega) out _ hout ?_ (ls.getD i []).length 0 [] (by omega) (by simp) (by simp)
    refine phr_l d (i + 1) _ (by omega) (fun _ => ?_)
    obtain ⟨a1, _, a3⟩ := hv _ (show ls.getD i [] ∈ ls by rw [List.getD_eq_getElem?_getD, List.getElem?_eq_getElem (show i < ls.length by omega)]; exact List.getElem_mem _)
    by_cases e : i = 0
    · rw [if_pos e]
      exact ⟨asc_begins _ a1, Nat.le_trans (len_begins _ _) a3⟩
    · rw [if_neg e]
      obtain ⟨h1, h2⟩ := hout e
      exact ⟨Li.asc_filter _ h1, Nat.le_trans (List.length_filter_le _ _) h2⟩
end

theorem phr_off (ls : List (List Int)) (os : List Int) (hlen : ls.length = os.length) (hn : ls.length < 1099511627776) (r : List Int × Int)
    (hr : badAny os = false → Ev (fun k => lists_Phrase.l1 k os [] ls (ls.length : Int) 0) r) : ∀ (d i : Nat), i + d = os.length → (os.take i).any (fun x => decide (x < -4096 ∨ 4096 < x)) = false →
    Ev (fun k => lists_Phrase.l0 k ls os os (os.length : Int) (i : Int)) (if badAny os = true then ([], 1) else r)
  | 0, i, h, ht => by
    refine Ev_next ?_
    have c1 : ¬ ((i : Int) < (os.length : Int)) := by omega
    simp only [lists_Phrase.l0, if_neg c1]
    rw [List.take_of_length_le (by omega)] at ht
    have hb : badAny os = false := ht
    rw [hb]
    simp only [Bool.false_eq_true, if_false]
    exact hr hb
  | d + 1, i, h, ht => by
    refine Ev_next ?_
    have c1 : (i : Int) < (os.length : Int) := by omega
    have c2 : (0 : Int) ≤ (i : Int) := by omega
    simp only [lists_Phrase.l0, if_pos c1, if_pos c2, badOff, Option.bind_some]
    rw [rd_nat]
    by_cases e : os.getD i 0 < -4096 ∨ 4096 < os.getD i 0
    · have hb : badAny os = true := List.any_eq_true.mpr ⟨_, getD_mem (show i < os.length by omega), decide_eq_true e⟩
      rw [hb]
      simp only [decide_eq_true e, if_true]
      exact Ev.now _
    · simp only [decide_eq_false e, Bool.false_eq_true, if_false, w1 (show i < 1099511627776 by omega)]
      refine phr_off ls os hlen hn r hr d (i + 1) (by omega) ?_
      rw [List.take_succ_eq_append_getElem (by omega), List.any_append, ht, Bool.false_or, List.any_cons, List.any_nil, Bool.or_false, show os[i] = os.getD i 0 from by rw [List.getD_eq_getElem?_getD, List.getElem?_eq_getElem (by omega)]; rfl]
      exact decide_eq_false e

theorem badAny_false {os : List Int} (h : badAny os = false) : ∀ x ∈ os, -4096 ≤ x ∧ x ≤ 4096 := by
  intro x hx
  have := List.any_eq_false.mp h x hx
  simp at this
  omega

theorem valid_all {ls : List (List Int)} (e : chkAll ls = 0) : ∀ l ∈ ls, Li.Asc l ∧ (∀ x ∈ l, 0 ≤ x ∧ x ≤ 2147483647) ∧ l.length ≤ 4096 := fun l hl => chk_zero (chkAll_zero e l hl)

theorem phr_j (ls : List (List Int)) (os : List Int) (hn : ls.length < 1099511627776) (c : Bool) (hc : c = decide (ls.length = 0 ∨ ls.length ≠ os.length)) :
    Ev (fun k => lists_Phrase.j0 k ls os c) (phraseS ls os) := by
  refine Ev_next ?_
  simp only [lists_Phrase.j0]
  unfold phraseS
  by_cases e : ls.length = 0 ∨ ls.length ≠ os.length
  · rw [hc, decide_eq_true e, if_pos e]
    simp only [if_true]
    exact Ev.now _
  · rw [hc, decide_eq_false e, if_neg e]
    simp only [Bool.false_eq_true, if_false]
    have hlen : ls.length = os.length := by omega
    refine Ev.bind (checkAll ls hn) ?_
    by_cases e2 : chkAll ls = 0
    · simp only [if_pos e2]
      refine phr_off ls os hlen hn _ (fun hb => ?_) os.length 0 (by omega) (by simp)
      have := phr_l ls os (valid_all e2) (badAny_false hb) hlen hn ls.length 0 [] (by omega) (fun h => absurd rfl h)
      simpa using this
    · simp only [if_neg e2]
      exact Ev.now _

theorem phrase (ls : List (List Int)) (os : List Int) (hn : ls.length < 1099511627776) : Ev (fun k => lists_Phrase.f k ls os) (phraseS ls os) := by
  unfold lists_Phrase.f
  by_cases e : ls.length = 0
  · have e' : (ls.length : Int) = 0 := by omega
    simp only [if_pos e']
    exact phr_j ls os hn true (decide_eq_true (.inl e)).symm
  · have e' : ¬ ((ls.length : Int) = 0) := by omega
    simp only [if_neg e']
    refine phr_j ls os hn _ ?_
    by_cases q : (ls.length : Int) = (os.length : Int)
    · rw [show ((ls.length : Int) != (os.length : Int)) = false from bne_eq_false_iff_eq.mpr q]
      exact (decide_eq_false (by omega)).symm
    · rw [show ((ls.length : Int) != (os.length : Int)) = true from bne_iff_ne.mpr q]
      exact (decide_eq_true (.inr (by omega))).symm

end Go.Proofs.Ytmeojlamadcedaa.LEv
