/- Functions of the program as Lean functions, each with a proof that its Go code comes to them; written by given.py of this session over the kit's print. Conditions: those of each theorem. -/
import Derived.Test.YtmeojlamadcedaaL2x0
namespace Go.Proofs.Ytmeojlamadcedaa.L2
open Go.Proofs.Ytmeojlamadcedaa.L
open Go.RowKit Go.Proofs.YtmeojlamadcedaaW.PrintWords Go.Proofs.YtmeojlamadcedaaW.PrintLast Go.Proofs.YtmeojlamadcedaaW.PrintMore
attribute [local go_sem] max2_int min2_int max_two min_two max_three min_three max_four min_four   -- for this text's walks alone
set_option linter.unusedVariables false
set_option linter.unusedSimpArgs false

/-! ### corporaref18_Phrase: function 53 -/
mutual
def corporaref18_Phrase.j0 : Nat → List (List Int) → List Int → Bool → Option (List Int × Int)
  | 0, _, _, _ => none
  | k + 1, x0, x1, x25 => if x25 = true then (some (([] : List Int), 15)) else ((corporaref18_CheckAll.f k x0).bind fun t107 => (if t107 = 0 then (corporaref18_Phrase.l0 k x0 x1 x1 (x1.length : Int) 0) else (some (([] : List Int), t107))))
def corporaref18_Phrase.l0 : Nat → List (List Int) → List Int → List Int → Int → Int → Option (List Int × Int)
  | 0, _, _, _, _, _ => none
  | k + 1, x0, x1, x31, x32, x33 => if x33 < x32 then (if 0 ≤ x33 then (if x33 < (x31.length : Int) then (if (rd x31 x33) < (-4096) then (some (([] : List Int), 1)) else (if (rd x31 x33) > 4096 then (some (([] : List Int), 1)) else (corporaref18_Phrase.l0 k x0 x1 x31 x32 (wrap64 (x33 + 1))))) else (none)) else (none)) else (if 0 < (x0.length : Int) then (corporaref18_Phrase.l1 k x0 x1 ([] : List Int) (rd_L1 x0 0) ((rd_L1 x0 0).length : Int) 0) else (none))
def corporaref18_Phrase.l1 : Nat → List (List Int) → List Int → List Int → List Int → Int → Int → Option (List Int × Int)
  | 0, _, _, _, _, _, _ => none
  | k + 1, x0, x1, x9, x46, x47, x48 => if x48 < x47 then (if 0 ≤ x48 then (if x48 < (x46.length : Int) then (if 0 < (x1.length : Int) then (corporaref18_Phrase.l2 k x0 x1 x9 (wrap64 ((rd x46 x48) - (rd x1 0))) (decide ((wrap64 ((rd x46 x48) - (rd x1 0))) ≥ 0)) x46 x47 x48 x0 (x0.length : Int) 0) else (none)) else (none)) else (none)) else (some (x9, 0))
def corporaref18_Phrase.l2 : Nat → List (List Int) → List Int → List Int → Int → Bool → List Int → Int → Int → List (List Int) → Int → Int → Option (List Int × Int)
  | 0, _, _, _, _, _, _, _, _, _, _, _ => none
  | k + 1, x0, x1, x9, x12, x13, x46, x47, x48, x59, x60, x61 => if x61 < x60 then (if 0 ≤ x61 then (if x61 < (x59.length : Int) then (if x13 = true then (if x61 < (x1.length : Int) then ((corporaref18_Has.f k (rd_L1 x59 x61) (wrap64 (x12 + (rd x1 x61)))).bind fun t114 => (corporaref18_Phrase.l2 k x0 x1 x9 x12 t114 x46 x47 x48 x59 x60 (wrap64 (x61 + 1)))) else (none)) else (corporaref18_Phrase.l2 k x0 x1 x9 x12 false x46 x47 x48 x59 x60 (wrap64 (x61 + 1)))) else (none)) else (none)) else (if x13 = true then (if x9.length < 17592186044416 then (corporaref18_Phrase.l1 k x0 x1 (x9 ++ [x12]) x46 x47 (wrap64 (x48 + 1))) else (none)) else (corporaref18_Phrase.l1 k x0 x1 x9 x46 x47 (wrap64 (x48 + 1))))
end
def corporaref18_Phrase.f (k : Nat) (l0 : List (List Int)) (l1 : List Int) : Option (List Int × Int) := if (l0.length : Int) = 0 then (corporaref18_Phrase.j0 k l0 l1 true) else (corporaref18_Phrase.j0 k l0 l1 ((l0.length : Int) != (l1.length : Int)))
theorem corporaref18_Phrase.mono_l : ∀ k, (∀ y0 y1 y2, LeO (corporaref18_Phrase.j0 k y0 y1 y2) (corporaref18_Phrase.j0 (k + 1) y0 y1 y2)) ∧ (∀ y0 y1 y2 y3 y4, LeO (corporaref18_Phrase.l0 k y0 y1 y2 y3 y4) (corporaref18_Phrase.l0 (k + 1) y0 y1 y2 y3 y4)) ∧ (∀ y0 y1 y2 y3 y4 y5, LeO (corporaref18_Phrase.l1 k y0 y1 y2 y3 y4 y5) (corporaref18_Phrase.l1 (k + 1) y0 y1 y2 y3 y4 y5)) ∧ (∀ y0 y1 y2 y3 y4 y5 y6 y7 y8 y9 y10, LeO (corporaref18_Phrase.l2 k y0 y1 y2 y3 y4 y5 y6 y7 y8 y9 y10) (corporaref18_Phrase.l2 (k + 1) y0 y1 y2 y3 y4 y5 y6 y7 y8 y9 y10))
  | 0 => ⟨fun _ _ _ r h => by simp [corporaref18_Phrase.j0] at h, fun _ _ _ _ _ r h => by simp [corporaref18_Phrase.l0] at h, fun _ _ _ _ _ _ r h => by simp [corporaref18_Phrase.l1] at h, fun _ _ _ _ _ _ _ _ _ _ _ r h => by simp [corporaref18_Phrase.l2] at h⟩
  | k + 1 => by
    obtain ⟨ih0, ih1, ih2, ih3⟩ := corporaref18_Phrase.mono_l k
    refine ⟨?_, ?_, ?_, ?_⟩
    · intro y0 y1 y2
      unfold corporaref18_Phrase.j0
      repeat' first
      | (with_reducible exact ih0 _ _ _)
      | (with_reducible exact ih1 _ _ _ _ _)
      | (with_reducible exact ih2 _ _ _ _ _ _)
      | (with_reducible exact ih3 _ _ _ _ _ _ _ _ _ _ _)
      | (with_reducible exact corporaref18_CheckAll.mono _ _)
      | (with_reducible exact corporaref18_Has.mono _ _ _)
      | (with_reducible exact LeO.refl _)
      | (with_reducible exact LeO.none _)
      | (with_reducible refine LeO.ite ?_ ?_)
      | (with_reducible refine LeO.bind ?_ (fun _ => ?_))
      | exact ih0 _ _ _
      | exact ih1 _ _ _ _ _
      | exact ih2 _ _ _ _ _ _
      | exact ih3 _ _ _ _ _ _ _ _ _ _ _
      | exact corporaref18_CheckAll.mono _ _
      | exact corporaref18_Has.mono _ _ _
      | exact LeO.none _
      | refine LeO.ite ?_ ?_
      | refine LeO.bind ?_ (fun _ => ?_)
    · intro y0 y1 y2 y3 y4
      unfold corporaref18_Phrase.l0
      repeat' first
      | (with_reducible exact ih0 _ _ _)
      | (with_reducible exact ih1 _ _ _ _ _)
      | (with_reducible exact ih2 _ _ _ _ _ _)
      | (with_reducible exact ih3 _ _ _ _ _ _ _ _ _ _ _)
      | (with_reducible exact corporaref18_CheckAll.mono _ _)
      | (with_reducible exact corporaref18_Has.mono _ _ _)
      | (with_reducible exact LeO.refl _)
      | (with_reducible exact LeO.none _)
      | (with_reducible refine LeO.ite ?_ ?_)
      | (with_reducible refine LeO.bind ?_ (fun _ => ?_))
      | exact ih0 _ _ _
      | exact ih1 _ _ _ _ _
      | exact ih2 _ _ _ _ _ _
      | exact ih3 _ _ _ _ _ _ _ _ _ _ _
      | exact corporaref18_CheckAll.mono _ _
      | exact corporaref18_Has.mono _ _ _
      | exact LeO.none _
      | refine LeO.ite ?_ ?_
      | refine LeO.bind ?_ (fun _ => ?_)
    · intro y0 y1 y2 y3 y4 y5
      unfold corporaref18_Phrase.l1
      repeat' first
      | (with_reducible exact ih0 _ _ _)
      | (with_reducible exact ih1 _ _ _ _ _)
      | (with_reducible exact ih2 _ _ _ _ _ _)
      | (with_reducible exact ih3 _ _ _ _ _ _ _ _ _ _ _)
      | (with_reducible exact corporaref18_CheckAll.mono _ _)
      | (with_reducible exact corporaref18_Has.mono _ _ _)
      | (with_reducible exact LeO.refl _)
      | (with_reducible exact LeO.none _)
      | (with_reducible refine LeO.ite ?_ ?_)
      | (with_reducible refine LeO.bind ?_ (fun _ => ?_))
      | exact ih0 _ _ _
      | exact ih1 _ _ _ _ _
      | exact ih2 _ _ _ _ _ _
      | exact ih3 _ _ _ _ _ _ _ _ _ _ _
      | exact corporaref18_CheckAll.mono _ _
      | exact corporaref18_Has.mono _ _ _
      | exact LeO.none _
      | refine LeO.ite ?_ ?_
      | refine LeO.bind ?_ (fun _ => ?_)
    · intro y0 y1 y2 y3 y4 y5 y6 y7 y8 y9 y10
      unfold corporaref18_Phrase.l2
      repeat' first
      | (with_reducible exact ih0 _ _ _)
      | (with_reducible exact ih1 _ _ _ _ _)
      | (with_reducible exact ih2 _ _ _ _ _ _)
      | (with_reducible exact ih3 _ _ _ _ _ _ _ _ _ _ _)
      | (with_reducible exact corporaref18_CheckAll.mono _ _)
      | (with_reducible exact corporaref18_Has.mono _ _ _)
      | (with_reducible exact LeO.refl _)
      | (with_reducible exact LeO.none _)
      | (with_reducible refine LeO.ite ?_ ?_)
      | (with_reducible refine LeO.bind ?_ (fun _ => ?_))
      | exact ih0 _ _ _
      | exact ih1 _ _ _ _ _
      | exact ih2 _ _ _ _ _ _
      | exact ih3 _ _ _ _ _ _ _ _ _ _ _
      | exact corporaref18_CheckAll.mono _ _
      | exact corporaref18_Has.mono _ _ _
      | exact LeO.none _
      | refine LeO.ite ?_ ?_
      | refine LeO.bind ?_ (fun _ => ?_)
theorem corporaref18_Phrase.mono : ∀ a0 a1 k, LeO (corporaref18_Phrase.f k a0 a1) (corporaref18_Phrase.f (k + 1) a0 a1) := by
  intro a0 a1 k
  obtain ⟨ih0, ih1, ih2, ih3⟩ := corporaref18_Phrase.mono_l k
  unfold corporaref18_Phrase.f
  repeat' first
      | (with_reducible exact ih0 _ _ _)
      | (with_reducible exact ih1 _ _ _ _ _)
      | (with_reducible exact ih2 _ _ _ _ _ _)
      | (with_reducible exact ih3 _ _ _ _ _ _ _ _ _ _ _)
      | (with_reducible exact corporaref18_CheckAll.mono _ _)
      | (with_reducible exact corporaref18_Has.mono _ _ _)
      | (with_reducible exact LeO.refl _)
      | (with_reducible exact LeO.none _)
      | (with_reducible refine LeO.ite ?_ ?_)
      | (with_reducible refine LeO.bind ?_ (fun _ => ?_))
      | exact ih0 _ _ _
      | exact ih1 _ _ _ _ _
      | exact ih2 _ _ _ _ _ _
      | exact ih3 _ _ _ _ _ _ _ _ _ _ _
      | exact corporaref18_CheckAll.mono _ _
      | exact corporaref18_Has.mono _ _ _
      | exact LeO.none _
      | refine LeO.ite ?_ ?_
      | refine LeO.bind ?_ (fun _ => ?_)
set_option maxHeartbeats 8000000 in
set_option maxRecDepth 100000 in
theorem corporaref18_Phrase.calls (k : Nat) (A0 : Option Addr) (c0 : Nat) (l0 : List (List Int)) (A1 : Option Addr) (c1 : Nat) (l1 : List Int) (r1 : List Int) (r2 : Int) (w : World) (hr0 : Kd.C (Kd.slice 3 (Kd.int .i64)) w A0 l0.length l0) (hc0 : l0.length ≤ c0) (hr1 : Kd.C (Kd.int .i64) w A1 l1.length l1) (hc1 : l1.length ≤ c1) (h : corporaref18_Phrase.f k l0 l1 = some (r1, r2)) :
    Calls Try.prog 53 #[.slice A0 l0.length c0, .slice A1 l1.length c1] w fun e w' => ∃ v0_ : Value, e = .returned (.tuple #[v0_, .int .i64 r2]) ∧ Kd.R (Kd.int .i64) 3 w' w.heap.size (fun _ => True) v0_ r1 ∧ Below w.heap.size w w' := by
  have HR0 := Aside0.mk hr0
  have HC0 := Aside0.mk hc0
  clear hr0 hc0
  have HR1 := Aside0.mk hr1
  have HC1 := Aside0.mk hc1
  clear hr1 hc1
  have HB := Aside0.mk (Below.refl w.heap.size w)
  have H : (if (l0.length : Int) = 0 then (corporaref18_Phrase.j0 k l0 l1 true) else (corporaref18_Phrase.j0 k l0 l1 ((l0.length : Int) != (l1.length : Int)))) = some (r1, r2) := h
  clear h
  have HC3 := Aside0.mk H
  clear H
  go_enter Try.func53, Try.ntmps53
  go_upto_region 1 with (fail)
  go_cut [25] (fun v25 wc => ∃ (kq : Nat) (x25_2 : Bool), v25 = .bool x25_2 ∧ Aside0 (corporaref18_Phrase.j0 kq l0 l1 x25_2 = some (r1, r2)) ∧ Aside0 (kq ≤ k) ∧ Aside0 (Below w.heap.size w wc))
  case first =>
    have H := HC3.out
    clear HC3
    by_cases c4 : (l0.length : Int) = 0
    · rw [if_pos c4] at H
      have c4b0 : ((l0.length : Int) == 0) = true := beq_iff_eq.mpr c4
      have c4b1 : ((l0.length : Int) != 0) = false := bne_eq_false_iff_eq.mpr c4
      clear c4
      (first | rw [c4b0] | (simp only [i64_w, i32_w]; rw [c4b0]) | skip)
      have H' := Aside0.mk H
      clear H
      go_wp2
      go_meet
      case rel => exact ⟨_, (true), (by first | rfl | (simp; done) | (simp [*]; done)), H', ⟨by first | omega | exact Nat.le_refl _⟩, ⟨by repeat (first | (with_reducible first | exact HB.out | apply below_alloc | apply pw_below_drewN | apply below_drew1) | exact HB.out)⟩⟩
    · rw [if_neg c4] at H
      have c4b0 : ((l0.length : Int) == 0) = false := beq_eq_false_iff_ne.mpr c4
      have c4b1 : ((l0.length : Int) != 0) = true := bne_iff_ne.mpr c4
      have c4b2 : ¬ (l0 = []) := fun h_ => c4 (by rw [h_]; rfl)
      (first | rw [c4b0] | (simp only [i64_w, i32_w]; rw [c4b0]) | skip)
      have H' := Aside0.mk H
      clear H
      go_wp2
      go_meet
      case rel => exact ⟨_, (((l0.length : Int) != (l1.length : Int))), (by first | rfl | (simp; done) | (simp [*]; done)), H', ⟨by first | omega | exact Nat.le_refl _⟩, ⟨by repeat (first | (with_reducible first | exact HB.out | apply below_alloc | apply pw_below_drewN | apply below_drew1) | exact HB.out)⟩⟩
  case rest =>
    clear HC3
    try clear c1
    try clear p2
    try clear c4
    try clear c4b0
    try clear c4b1
    try clear c4b2
    obtain ⟨kq, x25_2, rfl, HA, HJ2, HB⟩ := hcut
    cases kq with
    | zero => exact absurd HA.out (by simp [corporaref18_Phrase.j0])
    | succ kj2 =>
      have H := HA.out
      clear HA
      simp only [corporaref18_Phrase.j0] at H
      by_cases c5 : x25_2 = true
      · subst c5
        have H1 : (some (([] : List Int), 15)) = some (r1, r2) := by rw [if_pos rfl] at H; exact H
        clear H
        have H := H1
        clear H1
        simp only [Option.some.injEq, Prod.mk.injEq] at H
        obtain ⟨rfl, rfl⟩ := H
        go_wp2
        go_ret2
        exact ⟨_, by first | rfl | (simp [errW_none, errW_some] <;> rfl) | (simp [*, errW_none, errW_some] <;> rfl), by first | exact Kd.R_nil _ _ _ _ _ | exact Kd.N_nil _ _ _ _ _ | exact Kd.V_nil _ _ _ _ _ | exact Kd.Q_nil _ _ _ _ _ | exact Kd.S_nil _ _ _ _ _, by repeat (first | (with_reducible first | exact HB.out | apply below_alloc | apply pw_below_drewN | apply below_drew1) | exact HB.out)⟩
      · replace c5 := Bool.eq_false_iff.mpr c5
        subst c5
        have H1 : ((corporaref18_CheckAll.f kj2 l0).bind fun t107 => (if t107 = 0 then (corporaref18_Phrase.l0 kj2 l0 l1 l1 (l1.length : Int) 0) else (some (([] : List Int), t107)))) = some (r1, r2) := by rw [if_neg (show ¬ (false = true) by decide)] at H; exact H
        clear H
        have H := H1
        clear H1
        replace H := Option.bind_eq_some_iff.mp H
        obtain ⟨t107, A60, H⟩ := H
        replace H : (if t107 = 0 then (corporaref18_Phrase.l0 kj2 l0 l1 l1 (l1.length : Int) 0) else (some (([] : List Int), t107))) = some (r1, r2) := H
        have A6 := Aside0.mk A60
        clear A60
        by_cases c7 : t107 = 0
        · rw [if_pos c7] at H
          have c7b0 : (t107 == 0) = true := beq_iff_eq.mpr c7
          have c7b1 : (t107 != 0) = false := bne_eq_false_iff_eq.mpr c7
          clear c7
          have H' := Aside0.mk H
          clear H
          go_wp2_with (first | ((with_reducible refine gate_callee (f := 86) rfl ?_); refine goesL_ (some 27) rfl rfl Try.func86 (by kernel_rfl) rfl #[.slice A0 l0.length c0] rfl (by (try simp only [List.map_toArray, List.map_cons, List.map_nil]); first | done | rfl | (simp only [List.length_drop, List.length_take]; rfl)) ?_; (with_reducible refine (corporaref18_CheckAll.calls kj2 _ _ l0 t107 _ ?side1 ?side2 A6.out).mono ?_); (case side1 => repeat (first | exact (Kd.C_below HR0.out HB.out) | (with_reducible refine Kd.C_alloc ?_ _) | (with_reducible refine Kd.C_drewN ?_ _) | (with_reducible refine Kd.C_drew ?_))); (case side2 => exact HC0.out); rintro e w' ⟨rfl, ⟨nd, rfl⟩⟩; refine ⟨_, rfl, ?_⟩))
          go_loopg [33] kj2 (fun kq v33 w' => ∃ (x33_2 : Int), v33 = .int .i64 x33_2 ∧ Aside0 (corporaref18_Phrase.l0 kq l0 l1 l1 (l1.length : Int) x33_2 = some (r1, r2)) ∧ Aside0 (kq ≤ kj2) ∧ Aside0 (Below w.heap.size w w'))
          case atStart => exact ⟨(0), (by first | rfl | (simp; done) | (simp [*]; done)), H', ⟨Nat.le_refl _⟩, ⟨by repeat (first | (with_reducible first | exact HB.out | apply below_alloc | apply pw_below_drewN | apply below_drew1) | exact HB.out)⟩⟩
          case round =>
            clear H'
            try clear c1
            try clear p2
            try clear c4
            try clear c4b0
            try clear c4b1
            try clear c4b2
            try clear c5
            try clear c7
            try clear c7b0
            try clear c7b1
            try clear p2
            obtain ⟨x33_2, rfl, HA, HK2, HB⟩ := hrel
            cases gk with
            | zero => exact absurd HA.out (by simp [corporaref18_Phrase.l0])
            | succ k2 =>
              have H := HA.out
              clear HA
              simp only [corporaref18_Phrase.l0] at H
              by_cases c8 : x33_2 < (l1.length : Int)
              · rw [if_pos c8] at H
                have c8b0 : decide (x33_2 < (l1.length : Int)) = true := decide_eq_true c8
                clear c8
                by_cases c9 : 0 ≤ x33_2
                · rw [if_pos c9] at H
                  have c9b0 : decide (0 ≤ x33_2) = true := decide_eq_true c9
                  clear c9
                  by_cases c10 : x33_2 < (l1.length : Int)
                  · rw [if_pos c10] at H
                    have c10b0 : decide (x33_2 < (l1.length : Int)) = true := decide_eq_true c10
                    clear c10
                    by_cases c11 : (rd l1 x33_2) < (-4096)
                    · rw [if_pos c11] at H
                      have c11b0 : decide ((rd l1 x33_2) < (-4096)) = true := decide_eq_true c11
                      clear c11
                      simp only [Option.some.injEq, Prod.mk.injEq] at H
                      obtain ⟨rfl, rfl⟩ := H
                      have p108 : 0 ≤ (x33_2 : Int) := of_decide_eq_true (by first | (with_reducible assumption) | assumption)
                      have q108 : x33_2 < (l1.length : Int) := of_decide_eq_true (by first | (with_reducible assumption) | assumption)
                      obtain ⟨ad108, e108, hx108_0⟩ := Kd.at_int HR1.out x33_2 p108 q108
                      cases e108
                      replace hx108_0 := (HB.out.cell (World.block_lt_of_cell? w _ hx108_0)).trans hx108_0
                      replace p108 := eq_true p108
                      replace q108 := eq_true q108
                      go_wp2
                      go_ret2
                      exact ⟨_, by first | rfl | (simp [errW_none, errW_some] <;> rfl) | (simp [*, errW_none, errW_some] <;> rfl), by first | exact Kd.R_nil _ _ _ _ _ | exact Kd.N_nil _ _ _ _ _ | exact Kd.V_nil _ _ _ _ _ | exact Kd.Q_nil _ _ _ _ _ | exact Kd.S_nil _ _ _ _ _, by repeat (first | (with_reducible first | exact HB.out | apply below_alloc | apply pw_below_drewN | apply below_drew1) | exact HB.out)⟩
                    · rw [if_neg c11] at H
                      have c11b0 : decide ((rd l1 x33_2) < (-4096)) = false := decide_eq_false c11
                      clear c11
                      by_cases c12 : (rd l1 x33_2) > 4096
                      · rw [if_pos c12] at H
                        have c12b0 : decide (4096 < (rd l1 x33_2)) = true := decide_eq_true c12
                        clear c12
                        simp only [Option.some.injEq, Prod.mk.injEq] at H
                        obtain ⟨rfl, rfl⟩ := H
                        have p108 : 0 ≤ (x33_2 : Int) := of_decide_eq_true (by first | (with_reducible assumption) | assumption)
                        have q108 : x33_2 < (l1.length : Int) := of_decide_eq_true (by first | (with_reducible assumption) | assumption)
                        obtain ⟨ad108, e108, hx108_0⟩ := Kd.at_int HR1.out x33_2 p108 q108
                        cases e108
                        replace hx108_0 := (HB.out.cell (World.block_lt_of_cell? w _ hx108_0)).trans hx108_0
                        replace p108 := eq_true p108
                        replace q108 := eq_true q108
                        go_wp2
                        go_ret2
                        exact ⟨_, by first | rfl | (simp [errW_none, errW_some] <;> rfl) | (simp [*, errW_none, errW_some] <;> rfl), by first | exact Kd.R_nil _ _ _ _ _ | exact Kd.N_nil _ _ _ _ _ | exact Kd.V_nil _ _ _ _ _ | exact Kd.Q_nil _ _ _ _ _ | exact Kd.S_nil _ _ _ _ _, by repeat (first | (with_reducible first | exact HB.out | apply below_alloc | apply pw_below_drewN | apply below_drew1) | exact HB.out)⟩
                      · rw [if_neg c12] at H
                        have c12b0 : decide (4096 < (rd l1 x33_2)) = false := decide_eq_false c12
                        clear c12
                        have H' := Aside0.mk H
                        clear H
                        have p108 : 0 ≤ (x33_2 : Int) := of_decide_eq_true (by first | (with_reducible assumption) | assumption)
                        have q108 : x33_2 < (l1.length : Int) := of_decide_eq_true (by first | (with_reducible assumption) | assumption)
                        obtain ⟨ad108, e108, hx108_0⟩ := Kd.at_int HR1.out x33_2 p108 q108
                        cases e108
                        replace hx108_0 := (HB.out.cell (World.block_lt_of_cell? w _ hx108_0)).trans hx108_0
                        replace p108 := eq_true p108
                        replace q108 := eq_true q108
                        go_wp2
                        go_roundg k2
                        case measure => have := HJ2.out; have := HK2.out; omega
                        case rel => exact ⟨(wrap64 (x33_2 + 1)), (by first | rfl | (simp; done) | (simp [*]; done)), H', ⟨by have := HJ2.out; have := HK2.out; omega⟩, ⟨by repeat (first | (with_reducible first | exact HB.out | apply below_alloc | apply pw_below_drewN | apply below_drew1) | exact HB.out)⟩⟩
                  · rw [if_neg c10] at H
                    exact absurd H (by simp)
                · rw [if_neg c9] at H
                  exact absurd H (by simp)
              · rw [if_neg c8] at H
                have c8b0 : decide (x33_2 < (l1.length : Int)) = false := decide_eq_false c8
                clear c8
                by_cases c13 : 0 < (l0.length : Int)
                · rw [if_pos c13] at H
                  have c13b0 : decide (0 < (l0.length : Int)) = true := decide_eq_true c13
                  have c13b1 : decide (0 < l0.length) = true := decide_eq_true (by omega)
                  clear c13
                  have H' := Aside0.mk H
                  clear H
                  have p109 : 0 ≤ (0 : Int) := (by omega)
                  have q109 : 0 < (l0.length : Int) := of_decide_eq_true (by first | (with_reducible assumption) | assumption)
                  obtain ⟨ad109, A109_0, c109_0, e109, hx109_0, hl109_0, hi109_0⟩ := at_L1 HR0.out 0 p109 q109
                  cases e109
                  have qi109 : (0 < l0.length) = True := eq_true (by omega)
                  (try rw [show ((0 : Int)).toNat = 0 from rfl] at hx109_0)
                  (try rw [Addr.add_zero'] at hx109_0)
                  replace hx109_0 := (HB.out.cell (World.block_lt_of_cell? w _ hx109_0)).trans hx109_0
                  have HR109_0 := Aside0.mk hi109_0
                  have HC109_0 := Aside0.mk hl109_0
                  clear hi109_0 hl109_0
                  replace p109 := eq_true p109
                  replace q109 := eq_true q109
                  go_wp2
                  go_loopg [9, 48] k2 (fun kq v9 v48 w' => ∃ (x9_3 : List Int) (x48_3 : Int), v48 = .int .i64 x48_3 ∧ Aside0 (corporaref18_Phrase.l1 kq l0 l1 x9_3 (rd_L1 l0 0) ((rd_L1 l0 0).length : Int) x48_3 = some (r1, r2)) ∧ Aside0 (kq ≤ k2) ∧ Aside0 (Kd.R (Kd.int .i64) 3 w' w.heap.size (fun _ => True) v9 x9_3) ∧ Aside0 (Below w.heap.size w w'))
                  case atStart => exact ⟨(([] : List Int)), (0), (by first | rfl | (simp; done) | (simp [*]; done)), H', ⟨Nat.le_refl _⟩, ⟨by first | exact Kd.R_nil _ _ _ _ _ | exact Kd.N_nil _ _ _ _ _ | exact Kd.V_nil _ _ _ _ _ | exact Kd.Q_nil _ _ _ _ _ | exact Kd.S_nil _ _ _ _ _⟩, ⟨by repeat (first | (with_reducible first | exact HB.out | apply below_alloc | apply pw_below_drewN | apply below_drew1) | exact HB.out)⟩⟩
                  case round =>
                    clear H'
                    try clear c1
                    try clear p1
                    try clear q1
                    try clear hx1
                    try clear qi1
                    try clear p2
                    try clear c4
                    try clear c4b0
                    try clear c4b1
                    try clear c4b2
                    try clear c5
                    try clear p6
                    try clear c7
                    try clear c7b0
                    try clear c7b1
                    try clear c8
                    try clear c8b0
                    try clear c9
                    try clear c9b0
                    try clear c10
                    try clear c10b0
                    try clear p10
                    try clear q10
                    try clear hx10
                    try clear qi10
                    try clear c11
                    try clear c11b0
                    try clear c12
                    try clear c12b0
                    try clear c13
                    try clear c13b0
                    try clear c13b1
                    try clear hx108_0
                    try clear hx109_0
                    try clear p108
                    try clear p109
                    try clear p2
                    try clear q108
                    try clear q109
                    obtain ⟨x9_3, x48_3, rfl, HA, HK3, HO_9, HB⟩ := hrel
                    cases gk with
                    | zero => exact absurd HA.out (by simp [corporaref18_Phrase.l1])
                    | succ k3 =>
                      have H := HA.out
                      clear HA
                      simp only [corporaref18_Phrase.l1] at H
                      by_cases c14 : x48_3 < ((rd_L1 l0 0).length : Int)
                      · rw [if_pos c14] at H
                        have c14b0 : decide (x48_3 < ((rd_L1 l0 0).length : Int)) = true := decide_eq_true c14
                        clear c14
                        by_cases c15 : 0 ≤ x48_3
                        · rw [if_pos c15] at H
                          have c15b0 : decide (0 ≤ x48_3) = true := decide_eq_true c15
                          clear c15
                          by_cases c16 : x48_3 < ((rd_L1 l0 0).length : Int)
                          · rw [if_pos c16] at H
                            have c16b0 : decide (x48_3 < ((rd_L1 l0 0).length : Int)) = true := decide_eq_true c16
                            clear c16
                            by_cases c17 : 0 < (l1.length : Int)
                            · rw [if_pos c17] at H
                              have c17b0 : decide (0 < (l1.length : Int)) = true := decide_eq_true c17
                              have c17b1 : decide (0 < l1.length) = true := decide_eq_true (by omega)
                              clear c17
                              have H' := Aside0.mk H
                              clear H
                              have p110 : 0 ≤ (x48_3 : Int) := of_decide_eq_true (by first | (with_reducible assumption) | assumption)
                              have q110 : x48_3 < ((rd_L1 l0 0).length : Int) := of_decide_eq_true (by first | (with_reducible assumption) | assumption)
                              obtain ⟨ad110, e110, hx110_0⟩ := Kd.at_int HR109_0.out x48_3 p110 q110
                              cases e110
                              replace hx110_0 := (HB.out.cell (World.block_lt_of_cell? w _ hx110_0)).trans hx110_0
                              replace p110 := eq_true p110
                              replace q110 := eq_true q110
                              have p111 : 0 ≤ (0 : Int) := (by omega)
                              have q111 : 0 < (l1.length : Int) := of_decide_eq_true (by first | (with_reducible assumption) | assumption)
                              obtain ⟨ad111, e111, hx111_0⟩ := Kd.at_int HR1.out 0 p111 q111
                              cases e111
                              have qi111 : (0 < l1.length) = True := eq_true (by omega)
                              (try rw [show ((0 : Int)).toNat = 0 from rfl] at hx111_0)
                              (try rw [Addr.add_zero'] at hx111_0)
                              replace hx111_0 := (HB.out.cell (World.block_lt_of_cell? w _ hx111_0)).trans hx111_0
                              replace p111 := eq_true p111
                              replace q111 := eq_true q111
                              go_wp2
                              go_loopg [13, 61] k3 (fun kq v13 v61 w' => ∃ (x13_4 : Bool) (x61_4 : Int), v13 = .bool x13_4 ∧ v61 = .int .i64 x61_4 ∧ Aside0 (corporaref18_Phrase.l2 kq l0 l1 x9_3 (wrap64 ((rd (rd_L1 l0 0) x48_3) - (rd l1 0))) x13_4 (rd_L1 l0 0) ((rd_L1 l0 0).length : Int) x48_3 l0 (l0.length : Int) x61_4 = some (r1, r2)) ∧ Aside0 (kq ≤ k3) ∧ Aside0 (Kd.R (Kd.int .i64) 3 w' w.heap.size (fun _ => True) u9 x9_3) ∧ Aside0 (Below w.heap.size w w'))
                              case atStart => exact ⟨(decide ((wrap64 ((rd (rd_L1 l0 0) x48_3) - (rd l1 0))) ≥ 0)), (0), (by first | rfl | (simp; done) | (simp [*]; done)), (by first | rfl | (simp; done) | (simp [*]; done)), H', ⟨Nat.le_refl _⟩, ⟨by (with_reducible repeat (first | apply Kd.R_alloc | apply Kd.R_drewN | apply Kd.R_drew)); exact HO_9.out⟩, ⟨by repeat (first | (with_reducible first | exact HB.out | apply below_alloc | apply pw_below_drewN | apply below_drew1) | exact HB.out)⟩⟩
                              case round =>
                                clear H'
                                try clear c1
                                try clear p1
                                try clear q1
                                try clear hx1
                                try clear qi1
                                try clear p2
                                try clear c4
                                try clear c4b0
                                try clear c4b1
                                try clear c4b2
                                try clear c5
                                try clear p6
                                try clear c7
                                try clear c7b0
                                try clear c7b1
                                try clear c8
                                try clear c8b0
                                try clear c9
                                try clear c9b0
                                try clear c10
                                try clear c10b0
                                try clear p10
                                try clear q10
                                try clear hx10
                                try clear qi10
                                try clear c11
                                try clear c11b0
                                try clear p11
                                try clear q11
                                try clear hx11
                                try clear qi11
                                try clear c12
                                try clear c12b0
                                try clear c13
                                try clear c13b0
                                try clear c13b1
                                try clear c14
                                try clear c14b0
                                try clear c15
                                try clear c15b0
                                try clear c16
                                try clear c16b0
                                try clear c17
                                try clear c17b0
                                try clear c17b1
                                try clear hx108_0
                                try clear hx109_0
                                try clear hx110_0
                                try clear hx111_0
                                try clear p1
                                try clear p10
                                try clear p108
                                try clear p109
                                try clear p110
                                try clear p111
                                try clear p2
                                try clear p6
                                try clear q1
                                try clear q10
                                try clear q108
                                try clear q109
                                try clear q110
                                try clear q111
                                obtain ⟨x13_4, x61_4, rfl, rfl, HA, HK4, HO_9, HB⟩ := hrel
                                cases gk with
                                | zero => exact absurd HA.out (by simp [corporaref18_Phrase.l2])
                                | succ k4 =>
                                  have H := HA.out
                                  clear HA
                                  simp only [corporaref18_Phrase.l2] at H
                                  by_cases c18 : x61_4 < (l0.length : Int)
                                  · rw [if_pos c18] at H
                                    have c18b0 : decide (x61_4 < (l0.length : Int)) = true := decide_eq_true c18
                                    clear c18
                                    by_cases c19 : 0 ≤ x61_4
                                    · rw [if_pos c19] at H
                                      have c19b0 : decide (0 ≤ x61_4) = true := decide_eq_true c19
                                      clear c19
                                      by_cases c20 : x61_4 < (l0.length : Int)
                                      · rw [if_pos c20] at H
                                        have c20b0 : decide (x61_4 < (l0.length : Int)) = true := decide_eq_true c20
                                        clear c20
                                        by_cases c21 : x13_4 = true
                                        · subst c21
                                          have H1 : (if x61_4 < (l1.length : Int) then ((corporaref18_Has.f k4 (rd_L1 l0 x61_4) (wrap64 ((wrap64 ((rd (rd_L1 l0 0) x48_3) - (rd l1 0))) + (rd l1 x61_4)))).bind fun t114 => (corporaref18_Phrase.l2 k4 l0 l1 x9_3 (wrap64 ((rd (rd_L1 l0 0) x48_3) - (rd l1 0))) t114 (rd_L1 l0 0) ((rd_L1 l0 0).length : Int) x48_3 l0 (l0.length : Int) (wrap64 (x61_4 + 1)))) else (none)) = some (r1, r2) := by rw [if_pos rfl] at H; exact H
                                          clear H
                                          have H := H1
                                          clear H1
                                          by_cases c22 : x61_4 < (l1.length : Int)
                                          · rw [if_pos c22] at H
                                            have c22b0 : decide (x61_4 < (l1.length : Int)) = true := decide_eq_true c22
                                            clear c22
                                            replace H := Option.bind_eq_some_iff.mp H
                                            obtain ⟨t114, A230, H⟩ := H
                                            replace H : (corporaref18_Phrase.l2 k4 l0 l1 x9_3 (wrap64 ((rd (rd_L1 l0 0) x48_3) - (rd l1 0))) t114 (rd_L1 l0 0) ((rd_L1 l0 0).length : Int) x48_3 l0 (l0.length : Int) (wrap64 (x61_4 + 1))) = some (r1, r2) := H
                                            have A23 := Aside0.mk A230
                                            clear A230
                                            have H' := Aside0.mk H
                                            clear H
                                            have p112 : 0 ≤ (x61_4 : Int) := of_decide_eq_true (by first | (with_reducible assumption) | assumption)
                                            have q112 : x61_4 < (l0.length : Int) := of_decide_eq_true (by first | (with_reducible assumption) | assumption)
                                            obtain ⟨ad112, A112_0, c112_0, e112, hx112_0, hl112_0, hi112_0⟩ := at_L1 HR0.out x61_4 p112 q112
                                            obtain rfl : ad109 = ad112 := (by injection e112)
                                            replace hx112_0 := (HB.out.cell (World.block_lt_of_cell? w _ hx112_0)).trans hx112_0
                                            have HR112_0 := Aside0.mk hi112_0
                                            have HC112_0 := Aside0.mk hl112_0
                                            clear hi112_0 hl112_0
                                            replace p112 := eq_true p112
                                            replace q112 := eq_true q112
                                            have p113 : 0 ≤ (x61_4 : Int) := of_decide_eq_true (by first | (with_reducible assumption) | assumption)
                                            have q113 : x61_4 < (l1.length : Int) := of_decide_eq_true (by first | (with_reducible assumption) | assumption)
                                            obtain ⟨ad113, e113, hx113_0⟩ := Kd.at_int HR1.out x61_4 p113 q113
                                            obtain rfl : ad111 = ad113 := (by injection e113)
                                            replace hx113_0 := (HB.out.cell (World.block_lt_of_cell? w _ hx113_0)).trans hx113_0
                                            replace p113 := eq_true p113
                                            replace q113 := eq_true q113
                                            go_wp2_with (first | (go_at_call 59; (with_reducible refine (corporaref18_Has.calls k4 _ _ (rd_L1 l0 x61_4) (wrap64 ((wrap64 ((rd (rd_L1 l0 0) x48_3) - (rd l1 0))) + (rd l1 x61_4))) t114 _ ?side1 ?side2 A23.out).mono ?_); (case side1 => repeat (first | exact (Kd.C_below HR112_0.out HB.out) | (with_reducible refine Kd.C_alloc ?_ _) | (with_reducible refine Kd.C_drewN ?_ _) | (with_reducible refine Kd.C_drew ?_))); (case side2 => exact HC112_0.out); rintro e w' ⟨rfl, ⟨nd, rfl⟩⟩))
                                            go_roundg k4
                                            case measure => have := HJ2.out; have := HK2.out; have := HK3.out; have := HK4.out; omega
                                            case rel => exact ⟨(t114), (wrap64 (x61_4 + 1)), (by first | rfl | (simp; done) | (simp [*]; done)), (by first | rfl | (simp; done) | (simp [*]; done)), H', ⟨by have := HJ2.out; have := HK2.out; have := HK3.out; have := HK4.out; omega⟩, ⟨by (with_reducible repeat (first | apply Kd.R_alloc | apply Kd.R_drewN | apply Kd.R_drew)); exact HO_9.out⟩, ⟨by repeat (first | (with_reducible first | exact HB.out | apply below_alloc | apply pw_below_drewN | apply below_drew1) | exact HB.out)⟩⟩
                                          · rw [if_neg c22] at H
                                            exact absurd H (by simp)
                                        · replace c21 := Bool.eq_false_iff.mpr c21
                                          subst c21
                                          have H1 : (corporaref18_Phrase.l2 k4 l0 l1 x9_3 (wrap64 ((rd (rd_L1 l0 0) x48_3) - (rd l1 0))) false (rd_L1 l0 0) ((rd_L1 l0 0).length : Int) x48_3 l0 (l0.length : Int) (wrap64 (x61_4 + 1))) = some (r1, r2) := by rw [if_neg (show ¬ (false = true) by decide)] at H; exact H
                                          clear H
                                          have H := H1
                                          clear H1
                                          have H' := Aside0.mk H
                                          clear H
                                          have p112 : 0 ≤ (x61_4 : Int) := of_decide_eq_true (by first | (with_reducible assumption) | assumption)
                                          have q112 : x61_4 < (l0.length : Int) := of_decide_eq_true (by first | (with_reducible assumption) | assumption)
                                          obtain ⟨ad112, A112_0, c112_0, e112, hx112_0, hl112_0, hi112_0⟩ := at_L1 HR0.out x61_4 p112 q112
                                          obtain rfl : ad109 = ad112 := (by injection e112)
                                          replace hx112_0 := (HB.out.cell (World.block_lt_of_cell? w _ hx112_0)).trans hx112_0
                                          have HR112_0 := Aside0.mk hi112_0
                                          have HC112_0 := Aside0.mk hl112_0
                                          clear hi112_0 hl112_0
                                          replace p112 := eq_true p112
                                          replace q112 := eq_true q112
                                          go_wp2
                                          go_roundg k4
                                          case measure => have := HJ2.out; have := HK2.out; have := HK3.out; have := HK4.out; omega
                                          case rel => exact ⟨(false), (wrap64 (x61_4 + 1)), (by first | rfl | (simp; done) | (simp [*]; done)), (by first | rfl | (simp; done) | (simp [*]; done)), H', ⟨by have := HJ2.out; have := HK2.out; have := HK3.out; have := HK4.out; omega⟩, ⟨by (with_reducible repeat (first | apply Kd.R_alloc | apply Kd.R_drewN | apply Kd.R_drew)); exact HO_9.out⟩, ⟨by repeat (first | (with_reducible first | exact HB.out | apply below_alloc | apply pw_below_drewN | apply below_drew1) | exact HB.out)⟩⟩
                                      · rw [if_neg c20] at H
                                        exact absurd H (by simp)
                                    · rw [if_neg c19] at H
                                      exact absurd H (by simp)
                                  · rw [if_neg c18] at H
                                    have c18b0 : decide (x61_4 < (l0.length : Int)) = false := decide_eq_false c18
                                    clear c18
                                    by_cases c24 : x13_4 = true
                                    · subst c24
                                      have H1 : (if x9_3.length < 17592186044416 then (corporaref18_Phrase.l1 k4 l0 l1 (x9_3 ++ [(wrap64 ((rd (rd_L1 l0 0) x48_3) - (rd l1 0)))]) (rd_L1 l0 0) ((rd_L1 l0 0).length : Int) (wrap64 (x48_3 + 1))) else (none)) = some (r1, r2) := by rw [if_pos rfl] at H; exact H
                                      clear H
                                      have H := H1
                                      clear H1
                                      by_cases c25 : x9_3.length < 17592186044416
                                      · rw [if_pos c25] at H
                                        have LMc25 := Aside0.mk c25
                                        clear c25
                                        obtain ⟨y115, hy115⟩ : ∃ y_ : List Int, y_ = (x9_3 ++ [(wrap64 ((rd (rd_L1 l0 0) x48_3) - (rd l1 0)))]) := ⟨_, rfl⟩
                                        replace H : (corporaref18_Phrase.l1 k4 l0 l1 y115 (rd_L1 l0 0) ((rd_L1 l0 0).length : Int) (wrap64 (x48_3 + 1))) = some (r1, r2) := by first | (rw [hy115]; with_reducible exact H) | (have H2_ := (Option.bind_some _ _).symm.trans H; rw [hy115]; with_reducible exact H2_) | (have H2_ := (Option.bind_some _ _).symm.trans H; with_reducible exact H2_) | with_reducible exact H | (rw [hy115]; exact H) | exact H
                                        have Ny115 := Aside0.mk hy115
                                        clear hy115
                                        have H' := Aside0.mk H
                                        clear H
                                        go_wp2_with (first | ((with_reducible refine gate_builtin (b := .append) (xs := #[.tmp 79, .tmp 81]) rfl ?_); (try (refine gate_guard (by rfl) ?_; dsimp only)); at_builtin; refine Kd.R_append (Kd.int .i64) (w0 := w) w.heap.size rfl (.tmp 79) (.tmp 81) 38 3 (.int .i64 0) 8 rfl Try.underlying38 info3 rfl (by decide) (by omega) u9 x9_3 (wrap64 ((rd (rd_L1 l0 0) x48_3) - (rd l1 0))) [.int .i64 (wrap64 ((rd (rd_L1 l0 0) x48_3) - (rd l1 0)))] (fun _ => True) (fun _ => False) rfl rfl ?aP (fun _ hk => hk.elim) ?aF ?aO ?aB ?aS ?aL ?_; (case aP => exact rfl); (case aB => exact (by repeat (first | (with_reducible first | exact HB.out | apply below_alloc | apply pw_below_drewN | apply below_drew1) | exact HB.out))); (case aF => exact (fun _ _ => trivial)); (case aO => exact (by (with_reducible repeat (first | apply Kd.R_alloc | apply Kd.R_drewN | apply Kd.R_drew)); exact HO_9.out)); (case aS => exact (below_size (by repeat (first | (with_reducible first | exact HB.out | apply below_alloc | apply pw_below_drewN | apply below_drew1) | exact HB.out)))); (case aL => have := LMc25.out; omega); intro v116 w26 ho hb hg hat; rw [← Ny115.out] at ho; have n0_ := Aside0.mk (hb); have n1_ := Aside0.mk (ho); clear HB; clear HO_9; have HB := n0_; have HO117 := n1_; clear n0_ n1_; clear ho hb hg hat))
                                        go_roundg k4
                                        case measure => have := HJ2.out; have := HK2.out; have := HK3.out; have := HK4.out; omega
                                        case rel => exact ⟨(y115), (wrap64 (x48_3 + 1)), (by first | rfl | (simp; done) | (simp [*]; done)), H', ⟨by have := HJ2.out; have := HK2.out; have := HK3.out; have := HK4.out; omega⟩, ⟨by (with_reducible repeat (first | apply Kd.R_alloc | apply Kd.R_drewN | apply Kd.R_drew)); exact HO117.out⟩, ⟨by repeat (first | (with_reducible first | exact HB.out | apply below_alloc | apply pw_below_drewN | apply below_drew1) | exact HB.out)⟩⟩
                                      · rw [if_neg c25] at H
                                        exact absurd H (by simp)
                                    · replace c24 := Bool.eq_false_iff.mpr c24
                                      subst c24
                                      have H1 : (corporaref18_Phrase.l1 k4 l0 l1 x9_3 (rd_L1 l0 0) ((rd_L1 l0 0).length : Int) (wrap64 (x48_3 + 1))) = some (r1, r2) := by rw [if_neg (show ¬ (false = true) by decide)] at H; exact H
                                      clear H
                                      have H := H1
                                      clear H1
                                      have H' := Aside0.mk H
                                      clear H
                                      go_wp2
                                      go_roundg k4
                                      case measure => have := HJ2.out; have := HK2.out; have := HK3.out; have := HK4.out; omega
                                      case rel => exact ⟨(x9_3), (wrap64 (x48_3 + 1)), (by first | rfl | (simp; done) | (simp [*]; done)), H', ⟨by have := HJ2.out; have := HK2.out; have := HK3.out; have := HK4.out; omega⟩, ⟨by (with_reducible repeat (first | apply Kd.R_alloc | apply Kd.R_drewN | apply Kd.R_drew)); exact HO_9.out⟩, ⟨by repeat (first | (with_reducible first | exact HB.out | apply below_alloc | apply pw_below_drewN | apply below_drew1) | exact HB.out)⟩⟩
                            · rw [if_neg c17] at H
                              exact absurd H (by simp)
                          · rw [if_neg c16] at H
                            exact absurd H (by simp)
                        · rw [if_neg c15] at H
                          exact absurd H (by simp)
                      · rw [if_neg c14] at H
                        have c14b0 : decide (x48_3 < ((rd_L1 l0 0).length : Int)) = false := decide_eq_false c14
                        clear c14
                        simp only [Option.some.injEq, Prod.mk.injEq] at H
                        obtain ⟨rfl, rfl⟩ := H
                        go_wp2
                        go_ret2
                        exact ⟨_, by first | rfl | (simp [errW_none, errW_some] <;> rfl) | (simp [*, errW_none, errW_some] <;> rfl), by (with_reducible repeat (first | apply Kd.R_alloc | apply Kd.R_drewN | apply Kd.R_drew)); exact HO_9.out, by repeat (first | (with_reducible first | exact HB.out | apply below_alloc | apply pw_below_drewN | apply below_drew1) | exact HB.out)⟩
                · rw [if_neg c13] at H
                  exact absurd H (by simp)
        · rw [if_neg c7] at H
          have c7b0 : (t107 == 0) = false := beq_eq_false_iff_ne.mpr c7
          have c7b1 : (t107 != 0) = true := bne_iff_ne.mpr c7
          simp only [Option.some.injEq, Prod.mk.injEq] at H
          obtain ⟨rfl, rfl⟩ := H
          go_wp2_with (first | ((with_reducible refine gate_callee (f := 86) rfl ?_); refine goesL_ (some 27) rfl rfl Try.func86 (by kernel_rfl) rfl #[.slice A0 l0.length c0] rfl (by (try simp only [List.map_toArray, List.map_cons, List.map_nil]); first | done | rfl | (simp only [List.length_drop, List.length_take]; rfl)) ?_; (with_reducible refine (corporaref18_CheckAll.calls kj2 _ _ l0 t107 _ ?side1 ?side2 A6.out).mono ?_); (case side1 => repeat (first | exact (Kd.C_below HR0.out HB.out) | (with_reducible refine Kd.C_alloc ?_ _) | (with_reducible refine Kd.C_drewN ?_ _) | (with_reducible refine Kd.C_drew ?_))); (case side2 => exact HC0.out); rintro e w' ⟨rfl, ⟨nd, rfl⟩⟩; refine ⟨_, rfl, ?_⟩))
          go_ret2
          exact ⟨_, by first | rfl | (simp [errW_none, errW_some] <;> rfl) | (simp [*, errW_none, errW_some] <;> rfl), by first | exact Kd.R_nil _ _ _ _ _ | exact Kd.N_nil _ _ _ _ _ | exact Kd.V_nil _ _ _ _ _ | exact Kd.Q_nil _ _ _ _ _ | exact Kd.S_nil _ _ _ _ _, by repeat (first | (with_reducible first | exact HB.out | apply below_alloc | apply pw_below_drewN | apply below_drew1) | exact HB.out)⟩

end Go.Proofs.Ytmeojlamadcedaa.L2
