/- lists.gallop: of an ascending list it returns how many elements are less than x.
   Conditions: the list reads as an ascending list of less than 2^60 elements. -/
import Derived.Test.YtmeojlamadcedaaSearch
import Derived.RegionTactic
import Derived.BigQuiet
import Derived.Below
import Derived.WalkSpells
import Derived.WalkSmall
import Derived.Lib.MinMax
import Derived.Deep.RegionWith
import Derived.LoopTactic
namespace Go.Proofs.Ytmeojlamadcedaa
open Go.RowKit Go.Sort

set_option maxHeartbeats 1000000 in
theorem gal_closure (ba bf bx : Nat) (ad : Addr) (n cap fr i : Nat) (x y : Int) (W : World) (hi : fr + i < n) (hn : n < 1152921504606846976)
    (ha : W.cell? ⟨ba, 0, none⟩ = some (.slice (some ad) n cap)) (hf : W.cell? ⟨bf, 0, none⟩ = some (.int .i64 fr)) (hx : W.cell? ⟨bx, 0, none⟩ = some (.int .i64 x))
    (hc : W.cell? (ad.add (fr + i)) = some (.int .i64 y)) :
    Calls Try.prog 108 (#[.int .i64 i] ++ #[.pointer (some ⟨ba, 0, none⟩), .pointer (some ⟨bf, 0, none⟩), .pointer (some ⟨bx, 0, none⟩)]) W fun e w' => e = .returned (.bool (decide (x ≤ y))) ∧ ∃ q, w' = W.drewN q := by
  have hiz : (fr : Int) + (i : Int) < (n : Int) := by omega
  have hi0 : (0 : Int) ≤ (fr : Int) + (i : Int) := by omega
  go_enter Try.func108, Try.ntmps108
  go_wp2
  go_region
  all_goals go_wp2
  all_goals go_ret
  all_goals exact ⟨by first | rfl | simp, 1, rfl⟩

/-- The call of sort.Search out of gallop: whatever was drawn before. -/
theorem gal_search (ba bf bx : Nat) (ad : Addr) (cap : Nat) (l : List Int) (x : Int) (cnt fr to_ : Nat) (W : World) (hn : l.length < 1152921504606846976)
    (ha : W.cell? ⟨ba, 0, none⟩ = some (.slice (some ad) l.length cap)) (hf : W.cell? ⟨bf, 0, none⟩ = some (.int .i64 fr)) (hx : W.cell? ⟨bx, 0, none⟩ = some (.int .i64 x))
    (hc : ∀ i, i < l.length → W.cell? (ad.add i) = some (.int .i64 (l.getD i 0)))
    (h1 : ∀ i, i < cnt → l.getD i 0 < x) (h2 : ∀ i, cnt ≤ i → i < l.length → x ≤ l.getD i 0) (hfc : fr ≤ cnt) (hct : cnt ≤ to_) (htn : to_ ≤ l.length) (m : Nat) :
    Calls Try.prog 78 #[.int .i64 ((to_ : Int) - (fr : Int)), .func (.func 108) #[] #[.pointer (some ⟨ba, 0, none⟩), .pointer (some ⟨bf, 0, none⟩), .pointer (some ⟨bx, 0, none⟩)]] (W.drewN m)
      fun e w' => e = .returned (.int .i64 ((cnt : Int) - (fr : Int))) ∧ ∃ q, w' = (W.drewN m).drewN q := by
  have eg : ∀ args w, (callFunc 108 args).run Try.prog w = .ok (.enter 108 args) w := enters_of Try.func108 (by kernel_rfl) rfl
  have hS := search_any 108 #[.pointer (some ⟨ba, 0, none⟩), .pointer (some ⟨bf, 0, none⟩), .pointer (some ⟨bx, 0, none⟩)] (to_ - fr) (fun i => decide (x ≤ l.getD (fr + i) 0)) (W.drewN m) (cnt - fr) (by omega) eg (by omega)
    (fun q i hi => (gal_closure ba bf bx ad l.length cap fr i x (l.getD (fr + i) 0) ((W.drewN m).drewN q) (by omega) hn ha hf hx (hc _ (by omega))))
    (fun a ha' => by
      by_cases h : cnt - fr ≤ a
      · rw [decide_eq_true h]; simpa using h2 (fr + a) (by omega) (by omega)
      · rw [decide_eq_false h]; have := h1 (fr + a) (by omega); simpa using this)
  rw [show (((to_ - fr : Nat)) : Int) = (to_ : Int) - (fr : Int) from by omega, show (((cnt - fr : Nat)) : Int) = (cnt : Int) - (fr : Int) from by omega] at hS
  exact hS

set_option maxHeartbeats 4000000 in
set_option maxRecDepth 100000 in
theorem gallop_some (ad : Addr) (cap : Nat) (l : List Int) (x : Int) (cnt : Nat) (w : World) (hn : l.length < 1152921504606846976) (_hcap : l.length ≤ cap)
    (hc : ∀ i, i < l.length → w.cell? (ad.add i) = some (.int .i64 (l.getD i 0)))
    (hcl : cnt ≤ l.length) (h1 : ∀ i, i < cnt → l.getD i 0 < x) (h2 : ∀ i, cnt ≤ i → i < l.length → x ≤ l.getD i 0) :
    Calls Try.prog 101 #[.slice (some ad) l.length cap, .int .i64 x] w fun e w' => e = .returned (.int .i64 cnt) ∧ Below w.heap.size w w' := by
  have HC := Lib.hid hc
  have HX := Lib.hid h1
  have HX2 := Lib.hid h2
  clear hc h1 h2
  generalize hN : l.length = N at *
  have HN := Lib.hid hN
  clear hN
  obtain ⟨W0, hW0⟩ : ∃ W0, (w.alloc (.cells #[.slice (some ad) N cap] 38)).alloc (.cells #[.int .i64 x] 3) = W0 := ⟨_, rfl⟩
  have hsize : W0.heap.size = w.heap.size + 1 + 1 := by rw [← hW0]; simp
  have ca : W0.cell? ⟨w.heap.size, 0, none⟩ = some (.slice (some ad) N cap) := by rw [← hW0]; simp [go_sem]
  have cx : W0.cell? ⟨w.heap.size + 1, 0, none⟩ = some (.int .i64 x) := by rw [← hW0]; simp [go_sem]
  have hb0 : Below w.heap.size w W0 := by rw [← hW0]; exact ((Below.refl _ w).alloc (Nat.le_refl _) _).alloc (by simp) _
  have HCC := Lib.hid (fun i (hi : i < N) => cell_later hb0 (HC.out i hi))
  have HB0 := Lib.hid hb0
  have HS0 := Lib.hid hsize
  have HW0 := Lib.hid hW0
  clear hb0 hsize HC hW0
  go_enter Try.func101, Try.ntmps101
  go_wp2
  go_loopg [5] N (fun kx s5 wr => ∃ (e q : Nat), s5 = .int .i64 e ∧ 1 ≤ e ∧ N + 1 - e ≤ kx ∧ wr = W0.drewN q ∧ e / 2 ≤ cnt)
  case atStart => exact ⟨1, 0, rfl, Nat.le_refl _, by omega, HW0.out, by omega⟩
  case round =>
    obtain ⟨e, q, rfl, he1, hek, rfl, hec⟩ := hrel
    by_cases hlt : e ≤ N
    · have hz : decide ((e : Int) ≤ (N : Int)) = true := by simpa using hlt
      have he0 : (0 : Int) ≤ (e : Int) - 1 := by omega
      have heN : (e : Int) - 1 < (N : Int) := by omega
      have hcl : W0.cell? (ad.add (e - 1)) = some (.int .i64 (l.getD (e - 1) 0)) := HCC.out (e - 1) (by omega)
      have hw : IntKind.i64.wrap ((e : Int) - 1) = (e : Int) - 1 := by rw [IntKind.wrap_i64]; omega
      have hnn : ((e : Int) - 1).toNat = e - 1 := by omega
      have hxy := HX.out (e - 1)
      have hxy2 := HX2.out (e - 1)
      generalize l.getD (e - 1) 0 = y at *
      by_cases hx : y < x
      · have hy : decide (y < x) = true := decide_eq_true hx
        have hec' : e ≤ cnt := by
          rcases Nat.lt_or_ge (e - 1) cnt with h | h
          · omega
          · have := hxy2 h (by omega); omega
        clear hxy hxy2
        go_wp2
        go_quiet (fail)
        go_wp2
        go_roundg (N + 1 - 2 * e)
        case measure => omega
        case rel => exact ⟨2 * e, q + nq, by rw [show ((e : Int) * 2) = ((2 * e : Nat) : Int) from by omega], by omega, by omega, rfl, by omega⟩
      · have hy : decide (y < x) = false := decide_eq_false hx
        have hec' : cnt ≤ e - 1 := by
          rcases Nat.lt_or_ge (e - 1) cnt with h | h
          · exact absurd (hxy h) hx
          · exact h
        clear hxy hxy2
        go_wp2
        go_quiet (fail)
        have hb1 : Below W0.heap.size W0 ((W0.drewN q).drewN nq) := below_drewN (below_drewN (Below.refl _ _) _) _
        have ca1 : ∀ o, (((W0.drewN q).drewN nq).alloc o).cell? ⟨w.heap.size, 0, none⟩ = some (.slice (some ad) N cap) := fun o => cell_later ((Below.refl _ _).alloc (Nat.le_refl _) o) (cell_later hb1 ca)
        have cx1 : ∀ o, (((W0.drewN q).drewN nq).alloc o).cell? ⟨w.heap.size + 1, 0, none⟩ = some (.int .i64 x) := fun o => cell_later ((Below.refl _ _).alloc (Nat.le_refl _) o) (cell_later hb1 cx)
        generalize (W0.drewN q).drewN nq = W1 at *
        have HB1 := Lib.hid hb1
        clear hb1
        have hz1 : (0 : Int) ≤ (e : Int) / 2 := by omega
        have hz2 : (e : Int) / 2 ≤ (N : Int) := by omega
        have hz3 : (0 : Int) ≤ min (e : Int) (N : Int) := by omega
        have hz4 : min (e : Int) (N : Int) ≤ (N : Int) := by omega
        go_wp2
        generalize hW2 : W1.alloc (Obj.cells #[Value.int IntKind.i64 ((e : Int) / 2)] 3) = W2
        have hb2 : Below w.heap.size w W2 := by rw [← hW2]; exact (HB0.out.trans (HB1.out.mono (by have := HS0.out; omega))).alloc (Nat.le_trans HB0.out.size HB1.out.size) _
        have hbo : Below W0.heap.size W0 W2 := by rw [← hW2]; exact HB1.out.alloc HB1.out.size _
        have ca2 : W2.cell? ⟨w.heap.size, 0, none⟩ = some (.slice (some ad) N cap) := cell_later hbo ca
        have cx2 : W2.cell? ⟨w.heap.size + 1, 0, none⟩ = some (.int .i64 x) := cell_later hbo cx
        have cf2 : W2.cell? ⟨W1.heap.size, 0, none⟩ = some (.int .i64 ((e : Int) / 2)) := by rw [← hW2]; simp [go_sem]
        have hS : ∀ m, Calls Try.prog 78 #[.int .i64 (min (e : Int) (N : Int) - (e : Int) / 2), .func (.func 108) #[] #[.pointer (some ⟨w.heap.size, 0, none⟩), .pointer (some ⟨W1.heap.size, 0, none⟩), .pointer (some ⟨w.heap.size + 1, 0, none⟩)]] (W2.drewN m)
            fun e1 w' => e1 = .returned (.int .i64 ((cnt : Int) - (e : Int) / 2)) ∧ ∃ q, w' = (W2.drewN m).drewN q := fun m => by
          have h := gal_search w.heap.size W1.heap.size (w.heap.size + 1) ad cap l x cnt (e / 2) (min e N) W2 (by rw [HN.out]; exact hn) (by rw [HN.out]; exact ca2) (by rw [cf2]; congr 2)
            cx2 (fun i hi => cell_later hbo (HCC.out i (by rw [HN.out] at hi; exact hi))) HX.out (fun i h1 h2 => HX2.out i h1 (by rw [HN.out] at h2; exact h2)) (by omega) (by omega) (by rw [HN.out]; omega) m
          rw [show ((min e N : Nat) : Int) = min (e : Int) (N : Int) from by omega, show ((e / 2 : Nat) : Int) = (e : Int) / 2 from by omega] at h
          exact h
        have HSS := Lib.hid hS
        have HB2 := Lib.hid hb2
        clear hW2 hb2 hbo hS
        go_quiet ((go_at_call 78; exact Calls.quiet_of (HSS.out _)))
        go_wp2
        go_ret
        exact ⟨by rw [show (e : Int) / 2 + ((cnt : Int) - (e : Int) / 2) = (cnt : Int) from by omega]; rfl, below_drewN HB2.out _⟩
    · have hz : decide ((e : Int) ≤ (N : Int)) = false := by simpa using hlt
      go_wp2
      go_quiet (fail)
      have hb1 : Below W0.heap.size W0 ((W0.drewN q).drewN nq) := below_drewN (below_drewN (Below.refl _ _) _) _
      have ca1 : ∀ o, (((W0.drewN q).drewN nq).alloc o).cell? ⟨w.heap.size, 0, none⟩ = some (.slice (some ad) N cap) := fun o => cell_later ((Below.refl _ _).alloc (Nat.le_refl _) o) (cell_later hb1 ca)
      have cx1 : ∀ o, (((W0.drewN q).drewN nq).alloc o).cell? ⟨w.heap.size + 1, 0, none⟩ = some (.int .i64 x) := fun o => cell_later ((Below.refl _ _).alloc (Nat.le_refl _) o) (cell_later hb1 cx)
      generalize (W0.drewN q).drewN nq = W1 at *
      have HB1 := Lib.hid hb1
      clear hb1
      have hz1 : (0 : Int) ≤ (e : Int) / 2 := by omega
      have hz2 : (e : Int) / 2 ≤ (N : Int) := by omega
      have hz3 : (0 : Int) ≤ min (e : Int) (N : Int) := by omega
      have hz4 : min (e : Int) (N : Int) ≤ (N : Int) := by omega
      go_wp2
      generalize hW2 : W1.alloc (Obj.cells #[Value.int IntKind.i64 ((e : Int) / 2)] 3) = W2
      have hb2 : Below w.heap.size w W2 := by rw [← hW2]; exact (HB0.out.trans (HB1.out.mono (by have := HS0.out; omega))).alloc (Nat.le_trans HB0.out.size HB1.out.size) _
      have hbo : Below W0.heap.size W0 W2 := by rw [← hW2]; exact HB1.out.alloc HB1.out.size _
      have ca2 : W2.cell? ⟨w.heap.size, 0, none⟩ = some (.slice (some ad) N cap) := cell_later hbo ca
      have cx2 : W2.cell? ⟨w.heap.size + 1, 0, none⟩ = some (.int .i64 x) := cell_later hbo cx
      have cf2 : W2.cell? ⟨W1.heap.size, 0, none⟩ = some (.int .i64 ((e : Int) / 2)) := by rw [← hW2]; simp [go_sem]
      have hS : ∀ m, Calls Try.prog 78 #[.int .i64 (min (e : Int) (N : Int) - (e : Int) / 2), .func (.func 108) #[] #[.pointer (some ⟨w.heap.size, 0, none⟩), .pointer (some ⟨W1.heap.size, 0, none⟩), .pointer (some ⟨w.heap.size + 1, 0, none⟩)]] (W2.drewN m)
          fun e1 w' => e1 = .returned (.int .i64 ((cnt : Int) - (e : Int) / 2)) ∧ ∃ q, w' = (W2.drewN m).drewN q := fun m => by
        have h := gal_search w.heap.size W1.heap.size (w.heap.size + 1) ad cap l x cnt (e / 2) (min e N) W2 (by rw [HN.out]; exact hn) (by rw [HN.out]; exact ca2) (by rw [cf2]; congr 2)
          cx2 (fun i hi => cell_later hbo (HCC.out i (by rw [HN.out] at hi; exact hi))) HX.out (fun i h1 h2 => HX2.out i h1 (by rw [HN.out] at h2; exact h2)) (by omega) (by omega) (by rw [HN.out]; omega) m
        rw [show ((min e N : Nat) : Int) = min (e : Int) (N : Int) from by omega, show ((e / 2 : Nat) : Int) = (e : Int) / 2 from by omega] at h
        exact h
      have HSS := Lib.hid hS
      have HB2 := Lib.hid hb2
      clear hW2 hb2 hbo hS
      go_quiet ((go_at_call 78; exact Calls.quiet_of (HSS.out _)))
      go_wp2
      go_ret
      exact ⟨by rw [show (e : Int) / 2 + ((cnt : Int) - (e : Int) / 2) = (cnt : Int) from by omega]; rfl, below_drewN HB2.out _⟩

/-- The same over no element at all. -/
theorem gal_search_none (ba bf bx : Nat) (W : World) (m : Nat) :
    Calls Try.prog 78 #[.int .i64 0, .func (.func 108) #[] #[.pointer (some ⟨ba, 0, none⟩), .pointer (some ⟨bf, 0, none⟩), .pointer (some ⟨bx, 0, none⟩)]] (W.drewN m)
      fun e w' => e = .returned (.int .i64 0) ∧ ∃ q, w' = (W.drewN m).drewN q := by
  have eg : ∀ args w, (callFunc 108 args).run Try.prog w = .ok (.enter 108 args) w := enters_of Try.func108 (by kernel_rfl) rfl
  exact search_any 108 #[.pointer (some ⟨ba, 0, none⟩), .pointer (some ⟨bf, 0, none⟩), .pointer (some ⟨bx, 0, none⟩)] 0 (fun _ => true) (W.drewN m) 0 (by omega) eg (by omega)
    (fun q i hi => absurd hi (Nat.not_lt_zero _)) (fun a ha' => absurd ha' (Nat.not_lt_zero _))

set_option maxHeartbeats 4000000 in
set_option maxRecDepth 100000 in
theorem gallop_none (cap : Nat) (x : Int) (w : World) :
    Calls Try.prog 101 #[.slice none 0 cap, .int .i64 x] w fun e w' => e = .returned (.int .i64 0) ∧ Below w.heap.size w w' := by
  obtain ⟨W0, hW0⟩ : ∃ W0, (w.alloc (.cells #[.slice none 0 cap] 38)).alloc (.cells #[.int .i64 x] 3) = W0 := ⟨_, rfl⟩
  have hsize : W0.heap.size = w.heap.size + 1 + 1 := by rw [← hW0]; simp
  have ca : W0.cell? ⟨w.heap.size, 0, none⟩ = some (.slice none 0 cap) := by rw [← hW0]; simp [go_sem]
  have cx : W0.cell? ⟨w.heap.size + 1, 0, none⟩ = some (.int .i64 x) := by rw [← hW0]; simp [go_sem]
  have hb0 : Below w.heap.size w W0 := by rw [← hW0]; exact ((Below.refl _ w).alloc (Nat.le_refl _) _).alloc (by simp) _
  have HB0 := Lib.hid hb0
  have HS0 := Lib.hid hsize
  have HW0 := Lib.hid hW0
  clear hb0 hsize hW0
  go_enter Try.func101, Try.ntmps101
  go_wp2
  go_loopg [5] 1 (fun kx s5 wr => ∃ (e q : Nat), s5 = .int .i64 e ∧ 1 ≤ e ∧ 1 - e ≤ kx ∧ wr = W0.drewN q ∧ e ≤ 1)
  case atStart => exact ⟨1, 0, rfl, Nat.le_refl _, by omega, HW0.out, by omega⟩
  case round =>
    obtain ⟨e, q, rfl, he1, hek, rfl, hec⟩ := hrel
    obtain rfl : e = 1 := by omega

    go_wp2
    go_quiet (fail)
    have hb1 : Below W0.heap.size W0 ((W0.drewN q).drewN nq) := below_drewN (below_drewN (Below.refl _ _) _) _
    have ca1 : ∀ o, (((W0.drewN q).drewN nq).alloc o).cell? ⟨w.heap.size, 0, none⟩ = some (.slice none 0 cap) := fun o => cell_later ((Below.refl _ _).alloc (Nat.le_refl _) o) (cell_later hb1 ca)
    have cx1 : ∀ o, (((W0.drewN q).drewN nq).alloc o).cell? ⟨w.heap.size + 1, 0, none⟩ = some (.int .i64 x) := fun o => cell_later ((Below.refl _ _).alloc (Nat.le_refl _) o) (cell_later hb1 cx)
    generalize (W0.drewN q).drewN nq = W1 at *
    have HB1 := Lib.hid hb1
    clear hb1
    go_wp2
    generalize hW2 : W1.alloc (Obj.cells #[Value.int IntKind.i64 0] 3) = W2
    have hb2 : Below w.heap.size w W2 := by rw [← hW2]; exact (HB0.out.trans (HB1.out.mono (by have := HS0.out; omega))).alloc (Nat.le_trans HB0.out.size HB1.out.size) _
    have hbo : Below W0.heap.size W0 W2 := by rw [← hW2]; exact HB1.out.alloc HB1.out.size _
    have ca2 : W2.cell? ⟨w.heap.size, 0, none⟩ = some (.slice none 0 cap) := cell_later hbo ca
    have cx2 : W2.cell? ⟨w.heap.size + 1, 0, none⟩ = some (.int .i64 x) := cell_later hbo cx
    have cf2 : W2.cell? ⟨W1.heap.size, 0, none⟩ = some (.int .i64 0) := by rw [← hW2]; simp [go_sem]
    have hS : ∀ m, Calls Try.prog 78 #[.int .i64 (0), .func (.func 108) #[] #[.pointer (some ⟨w.heap.size, 0, none⟩), .pointer (some ⟨W1.heap.size, 0, none⟩), .pointer (some ⟨w.heap.size + 1, 0, none⟩)]] (W2.drewN m)
        fun e1 w' => e1 = .returned (.int .i64 0) ∧ ∃ q, w' = (W2.drewN m).drewN q := fun m => gal_search_none _ _ _ W2 m
    have HSS := Lib.hid hS
    have HB2 := Lib.hid hb2
    clear hW2 hb2 hbo hS
    go_quiet ((go_at_call 78; exact Calls.quiet_of (HSS.out _)))
    go_wp2
    go_ret
    exact ⟨rfl, below_drewN HB2.out _⟩

end Go.Proofs.Ytmeojlamadcedaa
