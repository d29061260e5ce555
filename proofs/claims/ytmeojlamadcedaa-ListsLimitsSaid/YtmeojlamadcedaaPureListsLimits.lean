/- When the union of two lists of consecutive numbers has too many elements (the pure side of ListsLimits).
   Conditions: none beyond the kinds of the numbers. -/
import Derived.Test.YtmeojlamadcedaaLSet
import Derived.Test.YtmeojlamadcedaaMLimitsx1
namespace Go.Proofs.Ytmeojlamadcedaa.Pure
open Go.RowKit Go.Proofs.Ytmeojlamadcedaa.L Go.Proofs.Ytmeojlamadcedaa.LEv Go.Proofs.YtmeojlamadcedaaW.PrintWords Go.Proofs.YtmeojlamadcedaaW.PrintLast Go.Proofs.YtmeojlamadcedaaW.PrintMore

/-- n consecutive numbers from s on -/
def up (s : Int) (n : Nat) : List Int := (List.range n).map fun (i : Nat) => s + (i : Int)
theorem up_len (s : Int) (n : Nat) : (up s n).length = n := by simp [up]
theorem mem_up (s z : Int) (n : Nat) : z ∈ up s n ↔ s ≤ z ∧ z < s + n := by
  unfold up
  rw [List.mem_map]
  constructor
  · rintro ⟨i, hi, rfl⟩
    rw [List.mem_range] at hi
    omega
  · rintro ⟨h1, h2⟩
    exact ⟨(z - s).toNat, List.mem_range.mpr (by omega), by omega⟩
theorem asc_up (s : Int) (n : Nat) : Li.Asc (up s n) := by
  unfold up
  rw [Li.Asc, List.pairwise_map]
  exact List.pairwise_lt_range.imp fun h => by omega
theorem vl_up {s : Int} {n : Nat} (h0 : 0 ≤ s) (h1 : s ≤ 100000) (h2 : n ≤ 100000) : Vl (up s n) n :=
  ⟨asc_up s n, fun x hx => by rw [mem_up] at hx; omega, by rw [up_len]; exact Nat.le_refl _⟩
theorem uni_up {s : Int} {n m : Nat} (h0 : 0 ≤ s) (h1 : s ≤ n) (h2 : (n : Int) ≤ s + m) (t : Nat) (ht : (t : Int) = s + m) : Li.uni (up 0 n) (up s m) = up 0 t ∧ Li.uni (up s m) (up 0 n) = up 0 t ∧ Li.uni (up 0 t) (up 0 n) = up 0 t := by
  refine ⟨?_, ?_, ?_⟩
  all_goals
    refine Li.asc_ext (Li.asc_uni _ _ (asc_up _ _) (asc_up _ _)) (asc_up _ _) fun z => ?_
    simp only [Li.mem_uni, mem_up]
    omega

theorem set_up (f : Nat → Int) (i d : Nat) : ((List.range i).map f ++ List.replicate (d + 1) 0).set i (f i) = (List.range (i + 1)).map f ++ List.replicate d 0 := by
  rw [List.set_append_right _ _ (by simp)]
  simp [List.replicate_succ, List.range_succ]

theorem wr {x : Int} (h1 : -1000000 ≤ x) (h2 : x ≤ 1000000) : wrap64 x = x := by unfold wrap64; omega

theorem wr0 : wrap64 (((([] : List Int).length : Nat) : Int) + ((([] : List Int).length : Nat) : Int)) = 0 := by rw [wr (by simp) (by simp)]; rfl

theorem awake_if : Ev (fun k => (corporalaw18_awake.f k).bind fun t => some t) true := Ev.bind LEv.awake (Ev.now _)

section
variable (n m o : Nat) (hn : n ≤ 4096) (hm : m ≤ 4096) (h1 : o ≤ n) (h2 : o ≤ m)
include hn hm h1 h2

theorem limits_end (t : Nat) (ht : (t : Int) = (n : Int) - o + m) (x58 x59 : Int) (h : ¬ x59 < x58) : Ev (fun k => MLimits.corporalaw18_ListsLimits.l1 k n m o (up 0 n) (up ((n : Int) - o) m) x58 x59) true := by
  refine Ev_next ?_
  have hw : wrap64 (wrap64 ((n : Int) + (m : Int)) - (o : Int)) = (t : Int) := by
    rw [wr (x := (n : Int) + (m : Int)) (by omega) (by omega), wr (by omega) (by omega)]
    omega
  obtain ⟨u1, u2, u3⟩ := uni_up (s := (n : Int) - o) (n := n) (m := m) (by omega) (by omega) (by omega) t ht
  have ca : chk (up 0 n) = 0 := (vl_up (by omega) (by omega) (by omega)).chk hn
  have cb : chk (up ((n : Int) - o) m) = 0 := (vl_up (by omega) (by omega) (by omega)).chk hm
  clear ht
  simp only [MLimits.corporalaw18_ListsLimits.l1, if_neg h]
  rw [hw]
  clear hw h
  have m1 := union2 (up 0 n) (up ((n : Int) - o) m)
  have m2 := merge [up ((n : Int) - o) m, up 0 n, up 0 n] (show 3 < 1099511627776 by omega)
  rw [merge2_lim ca cb, u1, up_len] at m1
  rw [merge3_lim cb ca ca, u2, u3, up_len] at m2
  by_cases e : 4096 < t
  · have e' : (t : Int) > 4096 := Int.ofNat_lt.mpr e
    rw [if_pos e] at m1
    rw [if_pos e] at m2
    refine Ev.bind m1 (Ev.bind m2 ?_)
    have e2 : wrap64 (((([] : List Int).length : Nat) : Int) + ((([] : List Int).length : Nat) : Int)) = 0 := wr0
    simp only [if_pos e', if_true, if_pos e2]
    exact awake_if
  · have e' : ¬ ((t : Int) > 4096) := fun h => e (Int.ofNat_lt.mp h)
    rw [if_neg e] at m1
    rw [if_neg e, if_neg e] at m2
    refine Ev.bind m1 (Ev.bind m2 ?_)
    have e2 : (((up 0 t).length : Nat) : Int) = (t : Int) := by rw [up_len]
    simp only [if_neg e', if_true, if_pos e2]
    exact awake_if

theorem limits_b : ∀ (d i : Nat), i + d = m →
    Ev (fun k => MLimits.corporalaw18_ListsLimits.l1 k n m o (up 0 n) ((List.range i).map (fun (j : Nat) => (n : Int) - o + (j : Int)) ++ List.replicate d 0) (m : Int) (i : Int)) true
  | 0, i, h => by
    rw [List.replicate_zero, List.append_nil, show i = m from by omega]
    exact limits_end n m o hn hm h1 h2 (n + m - o) (by omega) _ _ (by omega)
  | d + 1, i, h => by
    refine Ev_next ?_
    have c1 : (i : Int) < (m : Int) := by omega
    have c2 : (0 : Int) ≤ (i : Int) := by omega
    have c3 : (i : Int) < ((((List.range i).map (fun (j : Nat) => (n : Int) - o + (j : Int)) ++ List.replicate (d + 1) 0).length : Nat) : Int) := by simp; omega
    have hw : wrap64 (wrap64 ((n : Int) - (o : Int)) + (i : Int)) = (n : Int) - o + (i : Int) := by
      rw [wr (x := (n : Int) - (o : Int)) (by omega) (by omega), wr (by omega) (by omega)]
    simp only [MLimits.corporalaw18_ListsLimits.l1, if_pos c1, if_pos c2, if_pos c3, Int.toNat_natCast, w1 (show i < 1099511627776 by omega)]
    rw [hw, set_up (fun (j : Nat) => (n : Int) - o + (j : Int)) i d]
    exact limits_b d (i + 1) (by omega)

theorem limits_a : ∀ (d i : Nat), i + d = n →
    Ev (fun k => MLimits.corporalaw18_ListsLimits.l0 k n m o ((List.range i).map (fun (j : Nat) => (0 : Int) + (j : Int)) ++ List.replicate d 0) (List.replicate m 0) (n : Int) (i : Int)) true
  | 0, i, h => by
    refine Ev_next ?_
    rw [List.replicate_zero, List.append_nil, show i = n from by omega]
    have c1 : ¬ ((n : Int) < (n : Int)) := by omega
    simp only [MLimits.corporalaw18_ListsLimits.l0, if_neg c1]
    rw [List.length_replicate]
    exact limits_b n m o hn hm h1 h2 m 0 (by omega)
  | d + 1, i, h => by
    refine Ev_next ?_
    have c1 : (i : Int) < (n : Int) := by omega
    have c2 : (0 : Int) ≤ (i : Int) := by omega
    have c3 : (i : Int) < ((((List.range i).map (fun (j : Nat) => (0 : Int) + (j : Int)) ++ List.replicate (d + 1) 0).length : Nat) : Int) := by simp; omega
    simp only [MLimits.corporalaw18_ListsLimits.l0, if_pos c1, if_pos c2, if_pos c3, Int.toNat_natCast, w1 (show i < 1099511627776 by omega)]
    have hs := set_up (fun (j : Nat) => (0 : Int) + (j : Int)) i d
    have e0 : (0 : Int) + (i : Int) = (i : Int) := by omega
    rw [e0] at hs
    rw [hs]
    exact limits_a d (i + 1) (by omega)
end

theorem limits_j (a0 a1 a2 : Int) (c : Bool) (h : c = false → 0 ≤ a0 ∧ a0 ≤ 4096 ∧ 0 ≤ a1 ∧ a1 ≤ 4096 ∧ 0 ≤ a2 ∧ a2 ≤ a0 ∧ a2 ≤ a1) : Ev (fun k => MLimits.corporalaw18_ListsLimits.j0 k a0 a1 a2 c) true := by
  refine Ev_next ?_
  simp only [MLimits.corporalaw18_ListsLimits.j0]
  cases c with
  | true => simp only [if_true]; exact Ev.now _
  | false =>
    obtain ⟨h1, h2, h3, h4, h5, h6, h7⟩ := h rfl
    obtain ⟨n, rfl⟩ := Int.eq_ofNat_of_zero_le h1
    obtain ⟨m, rfl⟩ := Int.eq_ofNat_of_zero_le h3
    obtain ⟨o, rfl⟩ := Int.eq_ofNat_of_zero_le h5
    have c1 : n ≤ 35184372088832 := by omega
    have c2 : m ≤ 35184372088832 := by omega
    simp only [Bool.false_eq_true, if_false, if_pos h1, if_pos h3, Int.toNat_natCast, if_pos c1, if_pos c2, Option.bind_some]
    rw [List.length_replicate]
    exact limits_a n m o (by omega) (by omega) (by omega) (by omega) n 0 (by omega)

theorem ListsLimits : ∀ (a0 : Int) (a1 : Int) (a2 : Int), (Lit.int .i64 a0).wf = true → (Lit.int .i64 a1).wf = true → (Lit.int .i64 a2).wf = true → ∃ k, MLimits.corporalaw18_ListsLimits.f k a0 a1 a2 = some true := by
  intro a0 a1 a2 _ _ _
  refine Ev.rounds ?_
  unfold MLimits.corporalaw18_ListsLimits.f
  have yes := limits_j a0 a1 a2 true (fun h => by cases h)
  by_cases e1 : a0 < 0
  · simp only [if_pos e1]; exact yes
  · simp only [if_neg e1]
    by_cases e2 : a1 < 0
    · simp only [if_pos e2]; exact yes
    · simp only [if_neg e2]
      by_cases e3 : a0 > 4096
      · simp only [if_pos e3]; exact yes
      · simp only [if_neg e3]
        by_cases e4 : a1 > 4096
        · simp only [if_pos e4]; exact yes
        · simp only [if_neg e4]
          by_cases e5 : a2 < 0
          · simp only [if_pos e5]; exact yes
          · simp only [if_neg e5]
            by_cases e6 : a2 > a0
            · simp only [if_pos e6]; exact yes
            · simp only [if_neg e6]
              exact limits_j a0 a1 a2 _ (fun h => by have := of_decide_eq_false h; omega)

end Go.Proofs.Ytmeojlamadcedaa.Pure
