/- The program's Intersect, Subtract, Union and Merge on valid lists are those of sets.
   Conditions: valid lists of few elements. -/
import Derived.Test.YtmeojlamadcedaaLEw
namespace Go.Proofs.Ytmeojlamadcedaa.LEv
open Go.RowKit Go.Proofs.Ytmeojlamadcedaa.L Go.Proofs.YtmeojlamadcedaaW.PrintWords Go.Proofs.YtmeojlamadcedaaW.PrintLast Go.Proofs.YtmeojlamadcedaaW.PrintMore

/-- a valid list of at most n elements -/
def Vl (l : List Int) (n : Nat) : Prop := Li.Asc l ∧ (∀ x ∈ l, 0 ≤ x ∧ x ≤ 2147483647) ∧ l.length ≤ n

theorem Vl.chk {l : List Int} {n : Nat} (h : Vl l n) (hn : n ≤ 4096) : chk l = 0 := chk_ok h.1 h.2.1 (Nat.le_trans h.2.2 hn)
theorem Vl.of {l : List Int} {n : Nat} (h : LEv.chk l = 0) (hl : l.length ≤ n) : Vl l n := ⟨(chk_zero h).1, (chk_zero h).2.1, hl⟩
theorem Vl.mono {l : List Int} {n m : Nat} (h : Vl l n) (hn : n ≤ m) : Vl l m := ⟨h.1, h.2.1, Nat.le_trans h.2.2 hn⟩

def both (a b : List Int) : List Int := a.filter (fun x => decide (x ∈ b) == true)
def less (a b : List Int) : List Int := a.filter (fun x => decide (x ∈ b) == false)

theorem mem_both (a b : List Int) (z : Int) : z ∈ both a b ↔ z ∈ a ∧ z ∈ b := by
  unfold both; rw [List.mem_filter]; simp
theorem mem_less (a b : List Int) (z : Int) : z ∈ less a b ↔ z ∈ a ∧ z ∉ b := by
  unfold less; rw [List.mem_filter]; simp
theorem Vl.filter {l : List Int} {n : Nat} (h : Vl l n) (p : Int → Bool) : Vl (l.filter p) n :=
  ⟨Li.asc_filter p h.1, fun x hx => h.2.1 x (List.mem_filter.mp hx).1, Nat.le_trans (List.length_filter_le _ _) h.2.2⟩
theorem Vl.both {a : List Int} {n : Nat} (h : Vl a n) (b : List Int) : Vl (both a b) n := h.filter _
theorem Vl.less {a : List Int} {n : Nat} (h : Vl a n) (b : List Int) : Vl (less a b) n := h.filter _
theorem Vl.uni {a b : List Int} {n m : Nat} (h : Vl a n) (k : Vl b m) : Vl (Li.uni a b) (n + m) :=
  ⟨Li.asc_uni a b h.1 k.1, fun x hx => by
    rcases (Li.mem_uni x a b).mp hx with hx | hx
    · exact h.2.1 x hx
    · exact k.2.1 x hx, by have := uni_len a b; have := h.2.2; have := k.2.2; omega⟩

theorem len_share : ∀ (a b : List Int), (both a b).length + (less a b).length = a.length
  | [], _ => rfl
  | x :: a, b => by
    have h := len_share a b
    unfold both less at h ⊢
    rw [List.filter_cons, List.filter_cons]
    by_cases e : x ∈ b
    · rw [if_pos (by simpa using e), if_neg (by simpa using e), List.length_cons, List.length_cons]; omega
    · rw [if_neg (by simpa using e), if_pos (by simpa using e), List.length_cons, List.length_cons]; omega

theorem chkAll_ok : ∀ {ls : List (List Int)}, (∀ l ∈ ls, chk l = 0) → chkAll ls = 0
  | [], _ => rfl
  | l :: ls, h => by rw [chkAll, if_pos (h l (by simp))]; exact chkAll_ok fun m hm => h m (by simp [hm])

theorem intersect_ok {a b : List Int} (ha : chk a = 0) (hb : chk b = 0) : Ev (fun k => lists_Intersect.f k a b) (both a b, 0) := by
  have h := intersect a b
  unfold chooseS at h
  rwa [if_pos (chkAll_ok (by simp [ha, hb]))] at h
theorem subtract_ok {a b : List Int} (ha : chk a = 0) (hb : chk b = 0) : Ev (fun k => lists_Subtract.f k a b) (less a b, 0) := by
  have h := subtract a b
  unfold chooseS at h
  rwa [if_pos (chkAll_ok (by simp [ha, hb]))] at h
theorem union_ok {a b : List Int} {n m : Nat} (ha : Vl a n) (hb : Vl b m) (hn : n + m ≤ 4096) : Ev (fun k => lists_Union.f k a b) (Li.uni a b, 0) := by
  have h := union2 a b
  have h1 := (Vl.uni ha hb).2.2
  have h2 := ha.2.2
  unfold mergeS at h
  rw [if_pos (chkAll_ok (by simp [ha.chk (by omega), hb.chk (by omega)])), mergeFrom, Li.uni_nil_left, if_neg (by omega), mergeFrom, if_neg (by omega), mergeFrom] at h
  exact h
theorem merge3_ok {a b c : List Int} {n m q : Nat} (ha : Vl a n) (hb : Vl b m) (hc : Vl c q) (hn : n + m + q ≤ 4096) : Ev (fun k => lists_Merge.f k [a, b, c]) (Li.uni (Li.uni a b) c, 0) := by
  have h := merge [a, b, c] (by simp)
  have h1 := (Vl.uni ha hb).2.2
  have h2 := ha.2.2
  have h3 := ((Vl.uni ha hb).uni hc).2.2
  unfold mergeS at h
  rw [if_pos (chkAll_ok (by simp [ha.chk (by omega), hb.chk (by omega), hc.chk (by omega)])), mergeFrom, Li.uni_nil_left, if_neg (by omega), mergeFrom, if_neg (by omega), mergeFrom, if_neg (by omega), mergeFrom] at h
  exact h
theorem same_ok {a b : List Int} (h : a = b) (hn : a.length < 1099511627776) : Ev (fun k => corporaref12_SameInts.f k a b) true := by
  have := same a b hn
  rwa [decide_eq_true h] at this

theorem merge2_lim {a b : List Int} (ha : chk a = 0) (hb : chk b = 0) : mergeS [a, b] = if 4096 < (Li.uni a b).length then ([], 2) else (Li.uni a b, 0) := by
  have h1 := (chk_zero ha).2.2
  unfold mergeS
  rw [if_pos (chkAll_ok (by simp [ha, hb])), mergeFrom, Li.uni_nil_left, if_neg (by omega), mergeFrom, mergeFrom]
theorem merge3_lim {a b c : List Int} (ha : chk a = 0) (hb : chk b = 0) (hc : chk c = 0) :
    mergeS [a, b, c] = if 4096 < (Li.uni a b).length then ([], 2) else if 4096 < (Li.uni (Li.uni a b) c).length then ([], 2) else (Li.uni (Li.uni a b) c, 0) := by
  have h1 := (chk_zero ha).2.2
  unfold mergeS
  rw [if_pos (chkAll_ok (by simp [ha, hb, hc])), mergeFrom, Li.uni_nil_left, if_neg (by omega), mergeFrom, mergeFrom, mergeFrom]

end Go.Proofs.Ytmeojlamadcedaa.LEv
