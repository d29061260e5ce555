/- The row of corpora/corporalaw03.ChecksumChains: for every input the law returns true, and each argument reads afterwards as it read before.
   Conditions: none; the frame is written by rows.py of this session, after the kit's proof-skeleton. -/
import Derived.Test.YtmeojlamadcedaaRows
import Derived.Test.YtmeojlamadcedaaMCChainsx1
import Derived.Test.YtmeojlamadcedaaPureChecksumChains
import Derived.Test.YtmeojlamadcedaaRowWords
import Derived.Test.YtmeojlamadcedaaFacts
import Derived.Test.YtmeojlamadcedaaRowParts
import Derived.WalkKit
import Derived.ProofKit
import Derived.OpenShut
import Derived.ShutString
import Derived.ChangeOld
import Derived.Below
import Derived.SizedLaws
import Derived.Deep.Matrix
namespace Go.Proofs.Ytmeojlamadcedaa.checksumChains
open Go.ChangeShapes Go.WideShapes Go.ChangeAt Go.RowKit
open Go.ChangeMaps (open_string shut_string)
open Go.Proofs.YtmeojlamadcedaaW.PrintWords Go.Proofs.Ytmeojlamadcedaa.RowWords
set_option linter.unusedVariables false
theorem own : ownKnob Try.prog.godebug = none := by kernel_rfl
theorem laidOut : laidOutB Try.prog = true := by kernel_rfl
set_option maxRecDepth 100000 in
set_option maxHeartbeats 2000000 in
theorem lifted (os : Os) (started : os.Started) (H : Type) (enc : TypeId × Value → H) :
    ReturnsInHanded {} Try.checked os 11 .any (Rows.checksumChainsSpec.pre6 enc Try.prog Try.f11 Rows.checksumChainsRow.domain false) (Rows.checksumChainsSpec.post enc Try.prog Try.f11 false true false false) := by
  refine returnsInHanded_of_change_sized (C := Try.checked) own started (by kernel_rfl) Try.func11
    (ChangeSpec.witness6 (enc := enc) (C := Try.checked) false ⟨#[], #[.agg #[.int .u32 0, .int .u32 0, .int .u32 0, .int .u8 0, .int .u8 0]], []⟩ 8 (by kernel_rfl) (by kernel_rfl) (by kernel_rfl) (by kernel_rfl)) ?_
  intro W base args ds gs before hval0 hW hcnd hsz0 _
  have hsz : (DataW.weightsEach Try.prog (Try.f11.params.toList ++ Rows.checksumChainsSpec.plain.varTypes Try.prog) (ds ++ gs)).all (· ≤ reachBytes) = true := hsz0
  have hval : ∀ (j : Nat) t v, Try.f11.params[j]? = some t → args[j]? = some v → Value.okWide Try.prog W .any base t v := hval0
  have hW' := hW
  obtain ⟨p, q, hA0, hV, rfl, hfz, hnd⟩ := hW
  have hA : DataW.TrodAll enc Try.prog W 0 (fun _ => true) true Try.f11.params.toList args.toList ds p := hA0
  rw [Try.params11] at hA hval hsz
  obtain ⟨v0, vs0, d0, ds0, p0, q0, hargs, rfl, rfl, h0, r0⟩ := trodAll_cons hA
  obtain ⟨rfl, rfl, rfl⟩ := trodAll_nil r0
  obtain rfl : args = #[v0] := by cases args; simp_all
  obtain ⟨rfl, rfl⟩ := trodVars_none hV
  obtain ⟨c0_, rfl, hsz0_⟩ := okWide_struct Try.underlying54 (hval 0 54 v0 rfl rfl)
  have k0 := h0
  have lt0 : ∀ x ∈ p0, x.block < W.heap.size := by obtain ⟨m, hm⟩ := k0; exact DataW.trod_lt m _ _ _ hm
  obtain ⟨a0_0, a0_1, a0_2, a0_3, a0_4, hq0_, w0_0, w0_1, w0_2, w0_3, w0_4⟩ : ∃ a0_0 a0_1 a0_2 a0_3 a0_4 : Int, c0_ = #[.int .u32 a0_0, .int .u32 a0_1, .int .u32 a0_2, .int .u8 a0_3, .int .u8 a0_4] ∧ (Lit.int .u32 a0_0).wf = true ∧ (Lit.int .u32 a0_1).wf = true ∧ (Lit.int .u32 a0_2).wf = true ∧ (Lit.int .u8 a0_3).wf = true ∧ (Lit.int .u8 a0_4).wf = true := by
    obtain ⟨fuel, hf⟩ := h0
    obtain ⟨xs_, n_, _, _, hlc, hlen, hg⟩ := DataW.trod_struct Try.underlying54 hf
    have hl5 : xs_.length = 5 := hlen
    obtain ⟨x0_, e0_, u0_⟩ := field_int (P := Try.prog) (o := 0) (k := .u32) (by rw [List.getElem?_eq_getElem (by omega)]; rfl) Try.underlying23 (by kernel_rfl) (hg 0 _ rfl)
    obtain ⟨x1_, e1_, u1_⟩ := field_int (P := Try.prog) (o := 1) (k := .u32) (by rw [List.getElem?_eq_getElem (by omega)]; rfl) Try.underlying23 (by kernel_rfl) (hg 1 _ rfl)
    obtain ⟨x2_, e2_, u2_⟩ := field_int (P := Try.prog) (o := 2) (k := .u32) (by rw [List.getElem?_eq_getElem (by omega)]; rfl) Try.underlying23 (by kernel_rfl) (hg 2 _ rfl)
    obtain ⟨x3_, e3_, u3_⟩ := field_int (P := Try.prog) (o := 3) (k := .u8) (by rw [List.getElem?_eq_getElem (by omega)]; rfl) Try.underlying5 (by kernel_rfl) (hg 3 _ rfl)
    obtain ⟨x4_, e4_, u4_⟩ := field_int (P := Try.prog) (o := 4) (k := .u8) (by rw [List.getElem?_eq_getElem (by omega)]; rfl) Try.underlying5 (by kernel_rfl) (hg 4 _ rfl)
    refine ⟨x0_, x1_, x2_, x3_, x4_, ?_, u0_, u1_, u2_, u3_, u4_⟩
    exact cells_five (hlc.trans (by kernel_rfl)) e0_ e1_ e2_ e3_ e4_
  subst hq0_
  clear hA0 hval0 hsz0 hsz
  have hk := Pure.ChecksumChains a0_0 a0_1 a0_2 a0_3 a0_4 w0_0 w0_1 w0_2 w0_3 w0_4
  refine (MCChains.corporalaw03_ChecksumChains.calls (r := true) (w := W)  (h := hk)).mono fun e W' he => ?_
  obtain ⟨he, bel0⟩ := he
  have bel : Below W.heap.size W W' := bel0
  subst he
  exact ⟨_, rfl, _, _, _, [], _, [], hW', trodAll_mk1 (shut_bool Try.underlying4 _), (trodAll_cons_mk (Below.trod laidOut (by kernel_rfl) (of_decide_eq_true (by kernel_rfl)) k0 bel lt0) trodAll_mk0), rfl, bel.frame _, fun h => by cases h⟩
theorem closed : joinedFacts Try.prog 11 Try.f11 Rows.checksumChainsSpec Rows.checksumChainsRow = true :=
  Facts.joined_of _ _ _ _ _ (by kernel_rfl) Facts.mayEnter (by rw [Facts.liftsFinal]; kernel_rfl) (by rw [Facts.make]; kernel_rfl) (by kernel_rfl) (by kernel_rfl) (by kernel_rfl) (by kernel_rfl)
theorem over : Rows.checksumChainsRow.holds Try.pinned (OpenSpec.ofChange Rows.checksumChainsSpec) :=
  OpenClaim.holds_of_wide 11 Try.f11 rfl rfl rfl rfl rfl rfl rfl ⟨rfl, rfl, rfl, rfl, rfl⟩ rfl rfl rfl rfl rfl (by kernel_rfl) Try.func11 closed
    (of_decide_eq_true (by kernel_rfl)) (by unfold Func.isWrapper; first | (rw [if_pos (by decide +kernel)]; kernel_rfl) | (rw [if_neg (by decide +kernel)]; exact ⟨rfl, rfl⟩))
    (fun os started H enc _ => lifted os started H enc)
theorem proved : Rows.ChecksumChainsSaid := over
#print axioms proved
end Go.Proofs.Ytmeojlamadcedaa.checksumChains
namespace Go.Proofs.Ytmeojlamadcedaa
/-- The row, under a short name, for the claim. -/
theorem checksumChains_holds : Rows.ChecksumChainsSaid := checksumChains.proved
end Go.Proofs.Ytmeojlamadcedaa
