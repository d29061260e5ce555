/- Sum and its reference tell the same of all bytes (the pure side of ChecksumSums).
   Conditions: none beyond the lengths that the arguments' weights allow. -/
import Derived.Test.YtmeojlamadcedaaCkWf
import Derived.Test.YtmeojlamadcedaaLEv
import Derived.Test.YtmeojlamadcedaaMCSumsx1
namespace Go.Proofs.Ytmeojlamadcedaa.Pure
open Go.RowKit Go.Proofs.Ytmeojlamadcedaa.Given Go.Proofs.Ytmeojlamadcedaa.LEv Go.Proofs.YtmeojlamadcedaaW.PrintWords Go.Proofs.YtmeojlamadcedaaW.PrintLast Go.Proofs.YtmeojlamadcedaaW.PrintMore

theorem ChecksumSums : ∀ (l0 : List Int), l0.length * 1 ≤ 140737488351232 → (∀ x ∈ l0, (Lit.int .u8 x).wf = true) → MCSums.corporalaw03_ChecksumSums.f l0 = some true := by
  intro l _ hw
  unfold MCSums.corporalaw03_ChecksumSums.f
  by_cases h : (l.length : Int) > 2000
  · rw [if_pos h]
  · rw [if_neg h, sum_ok (byt_of hw) (by omega), rsum_ok (byt_of hw) (by omega)]
    simp [corporalaw03_awake.f]

end Go.Proofs.Ytmeojlamadcedaa.Pure
