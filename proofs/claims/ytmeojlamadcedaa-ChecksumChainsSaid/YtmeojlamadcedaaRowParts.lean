/- A struct of five whole numbers, by value: what its reading says of its cells.
   Conditions: those of the theorem. -/
import Derived.Test.YtmeojlamadcedaaProg
import Derived.WalkKit
import Derived.ProofKit
import Derived.OpenShut
import Derived.ChangeOld
import Derived.Lib.SmallJoins
namespace Go.Proofs.Ytmeojlamadcedaa.RowWords
open Go.ChangeShapes Go.WideShapes Go.RowKit
variable {H : Type} {enc : TypeId × Value → H} {P : Program} {w : World} {base : Nat} {spare : Nat → Bool} {held : Bool}

/-- One field of a struct that is a whole number. -/
theorem field_int {n : Nat} {cs : List Value} {t o : Nat} {k : IntKind} {y : Option (DataW H × List MemPlace)} (hy : y.isSome = true) (ht : P.underlying t = some (.int k)) (h1 : P.cellsOf t = 1)
    (h : DataW.trod enc P w base spare held n t ((cs.drop o).take (P.cellsOf t)) = y) : ∃ a, cs[o]? = some (.int k a) ∧ (Lit.int k a).wf = true := by
  obtain ⟨x, hx⟩ := Option.isSome_iff_exists.mp hy
  subst hx
  obtain ⟨a, hc, _, hw⟩ := DataW.trod_int ht h
  refine ⟨a, ?_, hw⟩
  rw [h1] at hc
  have h0 : ((cs.drop o).take 1)[0]? = some (.int k a) := by rw [hc]; rfl
  rw [List.getElem?_take_of_lt (by omega), List.getElem?_drop, Nat.add_zero] at h0
  exact h0

/-- Five cells that are known one by one. -/
theorem cells_five {cs : Array Value} {b0 b1 b2 b3 b4 : Value} (h : cs.toList.length = 5) (e0 : cs.toList[0]? = some b0) (e1 : cs.toList[1]? = some b1) (e2 : cs.toList[2]? = some b2) (e3 : cs.toList[3]? = some b3) (e4 : cs.toList[4]? = some b4) :
    cs = #[b0, b1, b2, b3, b4] := by
  obtain ⟨l⟩ := cs
  have h' : l.length = 5 := h
  match l, h' with
  | [x0, x1, x2, x3, x4], _ =>
    have e0 : some x0 = some b0 := e0
    have e1 : some x1 = some b1 := e1
    have e2 : some x2 = some b2 := e2
    have e3 : some x3 = some b3 := e3
    have e4 : some x4 = some b4 := e4
    rw [Option.some.inj e0, Option.some.inj e1, Option.some.inj e2, Option.some.inj e3, Option.some.inj e4]

end Go.Proofs.Ytmeojlamadcedaa.RowWords
