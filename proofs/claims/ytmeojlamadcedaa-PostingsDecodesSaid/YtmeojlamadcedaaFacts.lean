/- Closed facts on the first row of the translation: what was cut, and that a call may enter there.
   Conditions: none. -/
import Derived.Test.YtmeojlamadcedaaRows
import Derived.JoinedOf
import Derived.KernelRfl
namespace Go.Proofs.Ytmeojlamadcedaa.Facts
open Go
set_option maxRecDepth 100000
def signs : List Char := [104, 97, 114, 110, 101, 115, 115, 32, 52, 102, 101, 99, 99, 101, 52, 50, 56, 48, 97, 100, 100, 97, 97, 53, 53, 56, 102, 48, 98, 56, 98, 51, 55, 52, 49, 100, 97, 102, 50, 101, 48, 48, 97, 98, 48, 56, 49, 48, 50, 54, 49, 102, 97, 51, 50, 101, 53, 97, 53, 49, 100, 97, 97, 100, 101, 97, 48, 56, 49, 98, 56, 101, 32, 99, 117, 116, 32, 97, 116, 32, 99, 111, 114, 112, 111, 114, 97, 47, 99, 111, 114, 112, 111, 114, 97, 108, 97, 119, 48, 51, 46, 67, 104, 101, 99, 107, 115, 117, 109, 83, 117, 109, 115, 32, 99, 111, 114, 112, 111, 114, 97, 47, 99, 111, 114, 112, 111, 114, 97, 108, 97, 119, 48, 51, 46, 67, 104, 101, 99, 107, 115, 117, 109, 76, 105, 110, 101, 97, 114, 32, 99, 111, 114, 112, 111, 114, 97, 47, 99, 111, 114, 112, 111, 114, 97, 108, 97, 119, 48, 51, 46, 67, 104, 101, 99, 107, 115, 117, 109, 83, 101, 97, 108, 115, 32, 99, 111, 114, 112, 111, 114, 97, 47, 99, 111, 114, 112, 111, 114, 97, 108, 97, 119, 48, 51, 46, 67, 104, 101, 99, 107, 115, 117, 109, 85, 110, 115, 101, 97, 108, 115, 32, 99, 111, 114, 112, 111, 114, 97, 47, 99, 111, 114, 112, 111, 114, 97, 108, 97, 119, 48, 51, 46, 67, 104, 101, 99, 107, 115, 117, 109, 66, 117, 114, 115, 116, 115, 32, 99, 111, 114, 112, 111, 114, 97, 47, 99, 111, 114, 112, 111, 114, 97, 108, 97, 119, 48, 51, 46, 67, 104, 101, 99, 107, 115, 117, 109, 67, 111, 109, 98, 105, 110, 101, 115, 32, 99, 111, 114, 112, 111, 114, 97, 47, 99, 111, 114, 112, 111, 114, 97, 108, 97, 119, 49, 55, 46, 80, 111, 115, 116, 105, 110, 103, 115, 69, 110, 99, 111, 100, 101, 115, 32, 99, 111, 114, 112, 111, 114, 97, 47, 99, 111, 114, 112, 111, 114, 97, 108, 97, 119, 48, 51, 46, 67, 104, 101, 99, 107, 115, 117, 109, 67, 111, 109, 98, 105, 110, 101, 100, 32, 99, 111, 114, 112, 111, 114, 97, 47, 99, 111, 114, 112, 111, 114, 97, 108, 97, 119, 48, 51, 46, 67, 104, 101, 99, 107, 115, 117, 109, 67, 104, 97, 105, 110, 115, 32, 99, 111, 114, 112, 111, 114, 97, 47, 99, 111, 114, 112, 111, 114, 97, 108, 97, 119, 49, 55, 46, 80, 111, 115, 116, 105, 110, 103, 115, 68, 101, 99, 111, 100, 101, 115, 32, 99, 111, 114, 112, 111, 114, 97, 47, 99, 111, 114, 112, 111, 114, 97, 108, 97, 119, 49, 56, 46, 76, 105, 115, 116, 115, 67, 104, 101, 99, 107, 115, 32, 99, 111, 114, 112, 111, 114, 97, 47, 99, 111, 114, 112, 111, 114, 97, 108, 97, 119, 49, 56, 46, 76, 105, 115, 116, 115, 76, 105, 109, 105, 116, 115, 32, 99, 111, 114, 112, 111, 114, 97, 47, 99, 111, 114, 112, 111, 114, 97, 108, 97, 119, 49, 56, 46, 76, 105, 115, 116, 115, 77, 101, 114, 103, 101, 115, 32, 99, 111, 114, 112, 111, 114, 97, 47, 99, 111, 114, 112, 111, 114, 97, 108, 97, 119, 49, 56, 46, 76, 105, 115, 116, 115, 80, 104, 114, 97, 115, 101, 115, 32, 99, 111, 114, 112, 111, 114, 97, 47, 99, 111, 114, 112, 111, 114, 97, 108, 97, 119, 49, 56, 46, 76, 105, 115, 116, 115, 67, 111, 109, 98, 105, 110, 101, 115, 32, 99, 111, 114, 112, 111, 114, 97, 47, 99, 111, 114, 112, 111, 114, 97, 108, 97, 119, 49, 56, 46, 76, 105, 115, 116, 115, 66, 111, 111, 108, 101, 97, 110, 32, 99, 111, 114, 112, 111, 114, 97, 47, 99, 111, 114, 112, 111, 114, 97, 108, 97, 119, 49, 56, 46, 76, 105, 115, 116, 115, 83, 104, 105, 102, 116, 115, 32, 99, 111, 114, 112, 111, 114, 97, 47, 99, 111, 114, 112, 111, 114, 97, 108, 97, 119, 49, 56, 46, 76, 105, 115, 116, 115, 74, 111, 105, 110, 115, 32, 99, 111, 114, 112, 111, 114, 97, 47, 99, 111, 114, 112, 111, 114, 97, 108, 97, 119, 49, 55, 46, 80, 111, 115, 116, 105, 110, 103, 115, 83, 101, 101, 107, 115, 32, 99, 111, 114, 112, 111, 114, 97, 47, 99, 111, 114, 112, 111, 114, 97, 108, 97, 119, 49, 55, 46, 80, 111, 115, 116, 105, 110, 103, 115, 76, 105, 109, 105, 116, 115, 32, 99, 111, 114, 112, 111, 114, 97, 47, 99, 111, 114, 112, 111, 114, 97, 108, 97, 119, 49, 55, 46, 80, 111, 115, 116, 105, 110, 103, 115, 82, 101, 97, 100, 115, 32, 99, 111, 114, 112, 111, 114, 97, 47, 99, 111, 114, 112, 111, 114, 97, 108, 97, 119, 49, 55, 46, 80, 111, 115, 116, 105, 110, 103, 115, 87, 97, 108, 107, 115, 32, 99, 111, 114, 112, 111, 114, 97, 47, 99, 111, 114, 112, 111, 114, 97, 108, 97, 119, 49, 55, 46, 80, 111, 115, 116, 105, 110, 103, 115, 66, 117, 105, 108, 100, 115, 32, 99, 111, 114, 112, 111, 114, 97, 47, 99, 111, 114, 112, 111, 114, 97, 108, 97, 119, 49, 56, 46, 76, 105, 115, 116, 115, 80, 111, 115, 116, 105, 110, 103, 115].map Char.ofNat
theorem signs_of : Try.prog.initOrder.toList = signs := by
  have e : Try.prog.initOrder = String.ofList signs := by kernel_rfl
  rw [e, String.toList_ofList]
def cutw : List Char := [99, 117, 116].map Char.ofNat
theorem words : ∃ rest, behindMainWord (wordsSigns Try.prog.initOrder.toList) = cutw :: rest := by
  have h : (behindMainWord (wordsSigns signs)).head? = some cutw := by kernel_rfl
  rw [signs_of]
  generalize behindMainWord (wordsSigns signs) = x at h ⊢
  cases x with
  | nil => cases h
  | cons a r => injection h with h; subst h; exact ⟨r, rfl⟩
theorem strip (rest : List (List Char)) : stripLifts liftWords (cutw :: rest) = ([], cutw :: rest) := by kernel_rfl
theorem later : Try.prog.laysLater = false := by kernel_rfl
theorem refl : Try.prog.bearsReflect = false := by kernel_rfl
theorem doors : Try.prog.doorFits [] = true := by kernel_rfl
theorem cutEq : (some cutw == some "cut".toList) = true := by kernel_rfl
theorem cutGc : (cutw == "gc".toList) = false := by kernel_rfl
theorem cutSpec : (cutw == "spec".toList) = false := by kernel_rfl
theorem cutCarried : (cutw == "carried".toList) = false := by kernel_rfl
theorem cutCut : (cutw == "cut".toList) = true := by kernel_rfl
theorem someCarried : (some cutw == some "carried".toList) = false := by kernel_rfl
theorem mayEnter_of (P : Program) (rest : List (List Char)) (h : behindMainWord (wordsSigns P.initOrder.toList) = cutw :: rest) (h1 : P.laysLater = false) (h2 : P.bearsReflect = false) (h3 : P.doorFits [] = true) : P.mayEnter = true := by
  unfold Program.mayEnter
  rw [h]
  simp only [strip, cutGc, cutSpec, cutCarried, h1, h2, h3, List.head?_cons, cutEq, Bool.or_false, Bool.false_and, List.contains_nil, Bool.not_false, Bool.and_self, Bool.or_true]
theorem headLifts_of (P : Program) (rest : List (List Char)) (h : behindMainWord (wordsSigns P.initOrder.toList) = cutw :: rest) : P.headLifts = [] := by
  unfold Program.headLifts
  rw [h]
  simp only [strip, List.head?_cons, cutEq, if_true]
theorem liftsFinal_of (P : Program) (rest : List (List Char)) (h : behindMainWord (wordsSigns P.initOrder.toList) = cutw :: rest) : P.liftsFinal = false := by
  unfold Program.liftsFinal
  rw [h, headLifts_of P rest h]
  simp only [List.head?_cons, someCarried, Bool.false_and, List.contains_nil, Bool.false_or]
theorem make_of (P : Program) (rest : List (List Char)) (h : behindMainWord (wordsSigns P.initOrder.toList) = cutw :: rest) : P.make = some .cut := by
  unfold Program.make
  rw [h]
  simp only [cutGc, cutSpec, cutCut, Bool.false_or, Bool.true_or, if_true, Bool.false_eq_true, if_false]
theorem mayEnter : Try.prog.mayEnter = true := by
  obtain ⟨rest, h⟩ := words
  exact mayEnter_of _ rest h later refl doors
theorem liftsFinal : Try.prog.liftsFinal = false := by
  obtain ⟨rest, h⟩ := words
  exact liftsFinal_of _ rest h
theorem make : Try.prog.make = some .cut := by
  obtain ⟨rest, h⟩ := words
  exact make_of _ rest h
theorem joined_of (P : Program) (f : FuncId) (fn : Func) (s : ChangeSpec) (c : OpenClaim) (h1 : (c.wf (OpenSpec.ofChange s) && laidOutB P && mapsRowed P && fn.params.all (P.readableRec ·) && namedTie P c.named s.vars && (c.stops == []) && (P.stops == []) && (c.knobs == []) && (P.stopKnobs == []) && (c.inPlace == P.inPlace f) && (c.unfollowed == P.unfollowed f) && (c.recurses == P.recurses f) && (c.named == P.varsNamed f) && (c.maps == (fn.params.toList ++ s.plain.varTypes P).any (P.mapsRec ·)) && (c.ifaces == (fn.params.toList ++ s.plain.varTypes P).any (P.ifacesRec ·)) && (c.mapsOut == P.mapsAmong fn.resultTypes.toList) && (c.loops == (fn.params.toList ++ s.plain.varTypes P).any (P.loopsFrom ·)) && (c.wideKeys == (fn.params.toList ++ s.plain.varTypes P ++ fn.resultTypes.toList).any (P.wideKeysFrom ·)) && s.vars.all (P.varReadable ·) && fn.resultTypes.all (fun t => P.readableRec t && decide (t < P.types.size)) && (c.ifacesOut == fn.resultTypes.toList.any (P.ifacesRec ·)) && (c.loopsOut == fn.resultTypes.toList.any (P.loopsFrom ·)) && (c.plainKeys == P.plainKeys) && c.shortTexts.isNone && P.stopsHeard) = true) (h2 : P.mayEnter = true) (h3 : (c.lifted == P.liftsFinal) = true) (h4 : (P.make == some c.make) = true) (h5 : ((c.kinds == (if c.domain.isEmpty then [] else fn.params.toList.map fun t => match P.underlying t with | some (.int k) => some k | _ => none))) = true) (h6 : ((c.pinned == c.pinnedBy)) = true) (h7 : ((c.veiled == (fn.params.toList ++ s.plain.varTypes P ++ fn.resultTypes.toList).any (P.veiledRec ·))) = true) (h8 : (c.veiledFits P fn.params.toList (fn.params.toList ++ s.plain.varTypes P ++ fn.resultTypes.toList)) = true) : joinedFacts P f fn s c = true := by
  unfold joinedFacts
  rw [h1, h2, h3, h4]
  exact (Bool.and_eq_true _ _ |>.mpr ⟨(Bool.and_eq_true _ _ |>.mpr ⟨(Bool.and_eq_true _ _ |>.mpr ⟨(Bool.and_eq_true _ _ |>.mpr ⟨rfl, h5⟩), h6⟩), h7⟩), h8⟩)
/- facts behind: 4 -/
end Go.Proofs.Ytmeojlamadcedaa.Facts
