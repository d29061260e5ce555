/- The contract of lists.gallop in the print's own form: of an ascending list it returns how many elements at its begin are less than a number.
   Conditions: those of the theorem. -/
import Derived.Test.YtmeojlamadcedaaGallop
import Derived.Test.YtmeojlamadcedaaLiPure
import Derived.Test.YtmeojlamadcedaaWSized
import Derived.Test.YtmeojlamadcedaaWMore
namespace Go.Proofs.Ytmeojlamadcedaa.Given
open Go.RowKit Go.Proofs.YtmeojlamadcedaaW.PrintWords Go.Proofs.YtmeojlamadcedaaW.PrintLast Go.Proofs.YtmeojlamadcedaaW.PrintMore

def lists_gallop.f (l0 : List Int) (a1 : Int) : Option Int :=
  if l0.Pairwise (· ≤ ·) ∧ l0.length < 1152921504606846976 then some (Li.cnt l0 a1 : Int) else none

theorem lists_gallop.calls (A0 : Option Addr) (c0 : Nat) (l0 : List Int) (a1 : Int) (r : Int) (w : World) (hr0 : Kd.C (Kd.int .i64) w A0 l0.length l0) (hc0 : l0.length ≤ c0)
    (h : lists_gallop.f l0 a1 = some r) :
    Calls Try.prog 101 #[.slice A0 l0.length c0, .int .i64 a1] w fun e w' => e = .returned (.int .i64 r) ∧ Below w.heap.size w w' := by
  unfold lists_gallop.f at h
  split at h
  · rename_i hs
    obtain rfl : (Li.cnt l0 a1 : Int) = r := by simpa using h
    have hr := Kd.reads_of_C (enc := Value.int .i64) (d := (0 : Int)) (h1 := fun _ => rfl) hr0
    rcases Nat.eq_zero_or_pos l0.length with h0 | h0
    · obtain rfl : l0 = [] := List.eq_nil_of_length_eq_zero h0
      rcases A0 with _ | ad
      · exact gallop_none c0 a1 w
      · exact gallop_some ad c0 [] a1 0 w (by simp) hc0 (fun i hi => by simp at hi) (by simp) (fun i hi => by omega) (fun i _ hi => by simp at hi)
    · obtain ⟨ad, rfl, hcell⟩ := hr.2.2 h0
      exact gallop_some ad c0 l0 a1 (Li.cnt l0 a1) w hs.2 hc0 hcell (Li.cnt_le _ _) (Li.cnt_lt _ _) (Li.cnt_ge _ _ hs.1)
  · cases h

end Go.Proofs.Ytmeojlamadcedaa.Given
