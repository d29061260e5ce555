/- What the arguments' kinds say, in the words of chapter 3's contracts.
   Conditions: those of the theorems. -/
import Derived.Test.YtmeojlamadcedaaCkAwake
import Derived.Test.YtmeojlamadcedaaCx1
import Derived.RowKit
namespace Go.Proofs.Ytmeojlamadcedaa.Given
open Go.RowKit Go.Proofs.YtmeojlamadcedaaW.PrintWords Go.Proofs.YtmeojlamadcedaaW.PrintLast Go.Proofs.YtmeojlamadcedaaW.PrintMore

theorem byt_of {l : List Int} (h : ∀ x ∈ l, (Lit.int .u8 x).wf = true) : Byt l := fun x hx => by
  have := h x hx
  simp [Lit.wf, IntKind.min, IntKind.max, IntKind.bits, IntKind.signed] at this
  omega
theorem u32_of {x : Int} (h : (Lit.int .u32 x).wf = true) : U32 x := by
  simp [Lit.wf, IntKind.min, IntKind.max, IntKind.bits, IntKind.signed] at h
  exact ⟨by omega, by omega⟩
theorem sum_ok {l : List Int} (h : Byt l) (hl : l.length < 1000000000000) : checksum_Sum.f l = some ((Ck.sum (u8s l) : Nat) : Int) := if_pos ⟨h, hl⟩
theorem rsum_ok {l : List Int} (h : Byt l) (hl : l.length < 1000000000000) : corporaref03_Sum.f l = some ((Ck.sum (u8s l) : Nat) : Int) := if_pos ⟨h, hl⟩
theorem seal_ok {l : List Int} (h : Byt l) (hl : l.length < 1000000000000) : checksum_Seal.f l = some (ints (Ck.shutIt (u8s l))) := if_pos ⟨h, hl⟩
theorem combine_ok {x y n : Nat} (hx : x < 2 ^ 32) (hy : y < 2 ^ 32) (hn : n < 1000000000000) : checksum_Combine.f x y n = some ((Ck.sts (8 * n) x ^^^ y : Nat) : Int) := by
  unfold checksum_Combine.f
  rw [if_pos ⟨⟨by omega, by omega⟩, ⟨by omega, by omega⟩, by omega⟩, if_neg (by omega)]
  simp only [Int.toNat_natCast]
theorem u8s_append (a b : List Int) : u8s (a ++ b) = u8s a ++ u8s b := List.map_append
theorem byt_append {a b : List Int} (ha : Byt a) (hb : Byt b) : Byt (a ++ b) := fun x hx => by
  rcases List.mem_append.mp hx with h | h
  · exact ha x h
  · exact hb x h

theorem byt_ints (l : List UInt8) : Byt (ints l) := fun x hx => by
  obtain ⟨b, _, rfl⟩ := List.mem_map.mp hx
  have := b.toNat_lt
  omega
theorem u8s_ints (l : List UInt8) : u8s (ints l) = l := by
  unfold u8s ints
  rw [List.map_map]
  have e : l.map ((fun x : Int => UInt8.ofNat x.toNat) ∘ fun b : UInt8 => ((b.toNat : Nat) : Int)) = l.map id := List.map_congr_left fun x _ => by
    show UInt8.ofNat (((x.toNat : Nat) : Int)).toNat = x
    rw [Int.toNat_natCast]; exact UInt8.ofNat_toNat
  rw [e, List.map_id]

end Go.Proofs.Ytmeojlamadcedaa.Given
