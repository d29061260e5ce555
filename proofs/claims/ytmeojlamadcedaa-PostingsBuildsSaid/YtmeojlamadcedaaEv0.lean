/- Small words for what printed functions come to with enough rounds; numbers that no wrapping turns.
   Conditions: those of the theorems. -/
import Derived.Test.YtmeojlamadcedaaCkWf
namespace Go.Proofs.Ytmeojlamadcedaa.Ev0
open Go.RowKit Go.Proofs.YtmeojlamadcedaaW.PrintWords Go.Proofs.YtmeojlamadcedaaW.PrintLast Go.Proofs.YtmeojlamadcedaaW.PrintMore

theorem Ev_next {α : Type} {g : Nat → Option α} {r : α} (h : Ev (fun k => g (k + 1)) r) : Ev g r := Ev.step (fun _ => rfl) h
theorem w1 {i : Nat} (h : i < 1099511627776) : wrap64 ((i : Int) + 1) = ((i + 1 : Nat) : Int) := by unfold wrap64; omega
theorem rd_nat (l : List Int) (i : Nat) : rd l (i : Int) = l.getD i 0 := rfl
theorem wrap_u64_small {i : Nat} (h : i < 1099511627776) : IntKind.u64.wrap (i : Int) = (i : Int) := by
  simp [IntKind.wrap, IntKind.bits, IntKind.signed]
  try omega
theorem wrap_i64_small {i : Int} (h0 : 0 ≤ i) (h : i < 1099511627776) : wrap64 i = i := by unfold wrap64; omega
end Go.Proofs.Ytmeojlamadcedaa.Ev0
