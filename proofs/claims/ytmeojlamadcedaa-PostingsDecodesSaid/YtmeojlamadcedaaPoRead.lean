/- corporaref02.Read for the delta code; slices of bits and the calls on them.
   Conditions: those of the theorems. -/
import Derived.Test.YtmeojlamadcedaaPoEv
import Derived.Test.YtmeojlamadcedaaPoBs
namespace Go.Proofs.Ytmeojlamadcedaa
set_option linter.unusedSimpArgs false
set_option linter.unusedVariables false
open Go.RowKit Go.Sort Go.Proofs.YtmeojlamadcedaaW.PrintWords Go.Proofs.YtmeojlamadcedaaW.PrintLast Go.Proofs.YtmeojlamadcedaaW.PrintMore

theorem info4 : ∃ i : TypeInfo, Try.prog.info? 4 = some i ∧ i.zero = some (.bool false) ∧ i.size = 1 ∧ i.bytes = 1 := by
  have h : (Try.prog.info? 4).map (fun i => (i.zero, i.size, i.bytes)) = some (some (.bool false), 1, 1) := by kernel_rfl
  rcases hi : Try.prog.info? 4 with _ | i
  · rw [hi] at h; cases h
  · rw [hi] at h
    simp at h
    exact ⟨i, rfl, h.1, h.2.1, h.2.2⟩
/-- A slice of these bits. -/
structure Bb (w : World) (A : Option Addr) (n c : Nat) (b : List Bool) : Prop where
  len : n = b.length
  cap : n ≤ c
  C : Kd.C Kd.bool w A b.length b
theorem Bb.below {w w1 : World} {A : Option Addr} {n c : Nat} {b : List Bool} (h : Bb w A n c b) (hb : Below w.heap.size w w1) : Bb w1 A n c b := ⟨h.len, h.cap, Kd.C_below h.C hb⟩
theorem Bb.ofR {e : Nat} {w : World} {base : Nat} {ok : Nat → Prop} {v : Value} {b : List Bool} {n : Nat} (hn : n = b.length) (h : Kd.R Kd.bool e w base ok v b) : ∃ A c, v = .slice A n c ∧ Bb w A n c b := by
  obtain ⟨A, c, rfl, hc, hC⟩ := Kd.R_reads h
  exact ⟨A, c, by rw [hn], hn, by rw [hn]; exact hc, hC⟩
/-- The bits from lo to hi. -/
theorem Bb.mid {w : World} {A : Option Addr} {n c : Nat} {b : List Bool} (h : Bb w A n c b) (lo hi n1 : Nat) (b1 : List Bool) (h1 : lo ≤ hi) (h2 : hi ≤ n) (hn1 : n1 = hi - lo) (hb1 : b1 = (b.take hi).drop lo) :
    ∃ A1 c1, (∀ W : World, (Instr.slice 98 (.slice A n c) (some (.int .i64 (lo : Nat))) (some (.int .i64 (hi : Nat))) none).run Try.prog W = .ok (.slice A1 n1 c1) W) ∧ ∀ W, Bb W A n c b → Bb W A1 n1 c1 b1 := by
  obtain ⟨i, hi4, _, hsz, _⟩ := info4
  have hcut := cut_mid (P := Try.prog) 98 4 .i64 .i64 (show Try.prog.underlying 98 = some (.slice 4) by kernel_rfl) hi4 1 hsz A n c (lo : Int) (hi : Int) (by omega) (by omega) (by omega) h.cap
  subst hn1
  subst hb1
  have hln : ((b.take hi).drop lo).length = hi - lo := by rw [List.length_drop, List.length_take]; have := h.len; omega
  refine ⟨_, _, hcut, fun W hW => ⟨hln.symm, by have := h.cap; simp only [Int.toNat_natCast]; omega, ?_⟩⟩
  have hm := Kd.C_mid (lo := lo) (hi := hi) hW.C h1 (by rw [← hW.len]; exact h2) (by rw [← hW.len]; exact hW.cap)
  rw [show Kd.bool.sz = 1 from rfl] at hm
  simpa using hm
theorem numB_calls {A : Option Addr} {n c : Nat} {b : List Bool} {w : World} (h : Bb w A n c b) (hl : n ≤ 64) :
    Calls Try.prog 99 #[.slice A n c] w fun e w' => e = .returned (.int .u64 (Po.num b : Nat)) ∧ Below w.heap.size w w' := by
  obtain ⟨q, hq⟩ := Ev.rounds (Po.num_ev b (by rw [← h.len]; exact hl))
  have h1 := D.corporaref02_number.calls q A c b _ w h.C (by rw [← h.len]; exact h.cap) hq
  rw [← h.len] at h1
  refine h1.mono fun e w' hq => ?_
  obtain ⟨he, ⟨m, rfl⟩⟩ := hq
  exact ⟨he, below_drewN (Below.refl _ _) m⟩
theorem zerosB_calls {A : Option Addr} {n c : Nat} {b : List Bool} {w : World} (h : Bb w A n c b) (hl : n < 1000000000) (p : Nat) (hp : p ≤ n) :
    Calls Try.prog 100 #[.slice A n c, .int .i64 (p : Nat), .int .i64 63] w fun e w' => e = .returned (.tuple #[.int .i64 ((zF b p).1 : Nat), .int .i64 (zF b p).2]) ∧ Below w.heap.size w w' := by
  have hn := h.len
  obtain ⟨q, hq⟩ := Ev.rounds (Po.zeros_ev b p (by omega) (by omega))
  have h1 := D.corporaref02_zeros.calls q A c b _ _ _ _ w h.C (by rw [← h.len]; exact h.cap) hq
  rw [← h.len] at h1
  refine h1.mono fun e w' hq => ?_
  obtain ⟨he, ⟨m, rfl⟩⟩ := hq
  exact ⟨he, below_drewN (Below.refl _ _) m⟩

/-- deltaF by zF. -/
theorem deltaF_z (bl : List Bool) (p : Nat) : Po.deltaF bl p =
    if (zF bl p).2 ≠ 0 then (0, p, (zF bl p).2)
    else if bl.length < p + (2 * (zF bl p).1 + 1) then (0, p, 10)
    else if 64 < Po.num ((bl.take (p + 2 * (zF bl p).1 + 1)).drop (p + (zF bl p).1)) then (0, p, 9)
    else if bl.length < p + 2 * (zF bl p).1 + 1 + (Po.num ((bl.take (p + 2 * (zF bl p).1 + 1)).drop (p + (zF bl p).1)) - 1) then (0, p, 10)
    else (2 ^ (Po.num ((bl.take (p + 2 * (zF bl p).1 + 1)).drop (p + (zF bl p).1)) - 1) + Po.num ((bl.take (p + 2 * (zF bl p).1 + 1 + (Po.num ((bl.take (p + 2 * (zF bl p).1 + 1)).drop (p + (zF bl p).1)) - 1))).drop (p + 2 * (zF bl p).1 + 1)),
      p + 2 * (zF bl p).1 + 1 + (Po.num ((bl.take (p + 2 * (zF bl p).1 + 1)).drop (p + (zF bl p).1)) - 1), 0) := by
  obtain ⟨z, hz⟩ : ∃ z, Po.zc (bl.drop p) = z := ⟨_, rfl⟩
  have hdt : (bl.take (p + 2 * z + 1)).drop (p + z) = (bl.drop (p + z)).take (z + 1) := by
    rw [List.drop_take, show p + 2 * z + 1 - (p + z) = z + 1 by omega]
  unfold Po.deltaF Po.gammaF zF
  rw [hz]
  by_cases h1 : 63 < z
  · rw [if_pos h1, if_pos h1, if_pos (by decide), if_pos (by decide)]
  · rw [if_neg h1, if_neg h1]
    by_cases h2 : bl.length ≤ p + z
    · rw [if_pos h2, if_pos h2, if_pos (by decide), if_pos (by decide)]
    · rw [if_neg h2, if_neg h2]
      dsimp only
      rw [if_neg (show ¬ ((0 : Int) ≠ 0) by decide)]
      by_cases h3 : bl.length < p + z + (z + 1)
      · rw [if_pos h3, if_pos (show bl.length < p + (2 * z + 1) by omega), if_pos (by decide)]
      · rw [if_neg h3, if_neg (show ¬ bl.length < p + (2 * z + 1) by omega), hdt]
        dsimp only
        rw [if_neg (show ¬ ((0 : Int) ≠ 0) by decide)]
        obtain ⟨v, hv⟩ : ∃ v, Po.num ((bl.drop (p + z)).take (z + 1)) = v := ⟨_, rfl⟩
        rw [hv]
        have hdt2 : (bl.take (p + 2 * z + 1 + (v - 1))).drop (p + 2 * z + 1) = (bl.drop (p + 2 * z + 1)).take (v - 1) := by
          rw [List.drop_take, Nat.add_sub_cancel_left]
        rw [hdt2]
end Go.Proofs.Ytmeojlamadcedaa
