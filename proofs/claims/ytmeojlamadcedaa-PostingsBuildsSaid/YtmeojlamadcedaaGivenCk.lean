/- The contracts of chapter 3's functions in the print's own form.
   Conditions: those of the theorems (bytes that are bytes, sums that are sums). -/
import Derived.Test.YtmeojlamadcedaaCkMat
import Derived.Test.YtmeojlamadcedaaCkSeal
import Derived.Test.YtmeojlamadcedaaCkUnseal
import Derived.Test.YtmeojlamadcedaaWSized
import Derived.Test.YtmeojlamadcedaaWMore
namespace Go.Proofs.Ytmeojlamadcedaa.Given
open Go.RowKit Go.Proofs.YtmeojlamadcedaaW.PrintWords Go.Proofs.YtmeojlamadcedaaW.PrintLast Go.Proofs.YtmeojlamadcedaaW.PrintMore

def Byt (l : List Int) : Prop := ∀ x ∈ l, 0 ≤ x ∧ x < 256
instance (l : List Int) : Decidable (Byt l) := List.decidableBAll _ l
def u8s (l : List Int) : List UInt8 := l.map fun x => UInt8.ofNat x.toNat
def ints (l : List UInt8) : List Int := l.map fun b => ((b.toNat : Nat) : Int)
theorem u8s_len (l : List Int) : (u8s l).length = l.length := by simp [u8s]
theorem ints_len (l : List UInt8) : (ints l).length = l.length := by simp [ints]
theorem ints_u8s {l : List Int} (h : Byt l) : ints (u8s l) = l := by
  unfold ints u8s
  rw [List.map_map]
  have e : l.map ((fun b : UInt8 => ((b.toNat : Nat) : Int)) ∘ fun x => UInt8.ofNat x.toNat) = l.map id := List.map_congr_left fun x hx => by
    have := h x hx
    show (((UInt8.ofNat x.toNat).toNat : Nat) : Int) = x
    rw [UInt8.toNat_ofNat']; omega
  rw [e, List.map_id]
theorem vals_ints (l : List UInt8) : vals l = encs (Value.int .u8) (ints l) := by
  unfold vals ints encs; rw [List.map_map]; rfl
theorem at_ints (l : List UInt8) (i : Nat) : (ints l).getD i 0 = (((l.getD i 0).toNat : Nat) : Int) := by
  unfold ints
  rw [List.getD_eq_getElem?_getD, List.getD_eq_getElem?_getD, List.getElem?_map]
  cases l[i]? <;> rfl

/-- What a row of bytes says of the cells. -/
theorem reads8 {w : World} {A0 : Option Addr} {l0 : List Int} (hB : Byt l0) (hr0 : Kd.C (Kd.int .u8) w A0 l0.length l0) :
    (l0 = [] ∨ A0 ≠ none) ∧ ∀ ad, A0 = some ad → ∀ i, i < (u8s l0).length → w.cell? (ad.add i) = some (.int .u8 (((u8s l0).getD i 0).toNat : Nat)) := by
  have hr := Kd.reads_of_C (enc := Value.int .u8) (d := (0 : Int)) (h1 := fun _ => rfl) hr0
  rcases Nat.eq_zero_or_pos l0.length with h0 | h0
  · obtain rfl : l0 = [] := List.eq_nil_of_length_eq_zero h0
    exact ⟨.inl rfl, fun ad _ i hi => by simp [u8s] at hi⟩
  · obtain ⟨ad, rfl, hcell⟩ := hr.2.2 h0
    refine ⟨.inr (by simp), fun ad' e i hi => ?_⟩
    obtain rfl := Option.some.inj e
    have h := hcell i (by rw [u8s_len] at hi; exact hi)
    rw [← at_ints, ints_u8s hB]
    exact h

theorem nil_of {A0 : Option Addr} {l0 : List Int} (h : l0 = [] ∨ A0 ≠ none) : A0 = none → u8s l0 = [] := fun e => by
  rcases h with rfl | h
  · rfl
  · exact absurd e h

def checksum_Sum.f (l0 : List Int) : Option Int := if Byt l0 ∧ l0.length < 1000000000000 then some ((Ck.sum (u8s l0) : Nat) : Int) else none
theorem checksum_Sum.calls (A0 : Option Addr) (c0 : Nat) (l0 : List Int) (r : Int) (w : World) (hr0 : Kd.C (Kd.int .u8) w A0 l0.length l0) (_hc0 : l0.length ≤ c0)
    (h : checksum_Sum.f l0 = some r) :
    Calls Try.prog 27 #[.slice A0 l0.length c0] w fun e w' => e = .returned (.int .u32 r) ∧ Below w.heap.size w w' := by
  unfold checksum_Sum.f at h
  split at h
  · rename_i hs
    obtain rfl := Option.some.inj h
    obtain ⟨hn, hc⟩ := reads8 hs.1 hr0
    have h := sum_any A0 c0 (u8s l0) w (by rw [u8s_len]; omega) (nil_of hn) hc
    rwa [u8s_len] at h
  · cases h

def corporaref03_Sum.f (l0 : List Int) : Option Int := if Byt l0 ∧ l0.length < 1000000000000 then some ((Ck.sum (u8s l0) : Nat) : Int) else none
theorem corporaref03_Sum.calls (A0 : Option Addr) (c0 : Nat) (l0 : List Int) (r : Int) (w : World) (hr0 : Kd.C (Kd.int .u8) w A0 l0.length l0) (hc0 : l0.length ≤ c0)
    (h : corporaref03_Sum.f l0 = some r) :
    Calls Try.prog 28 #[.slice A0 l0.length c0] w fun e w' => e = .returned (.int .u32 r) ∧ Drawn0 w w' := by
  unfold corporaref03_Sum.f at h
  split at h
  · rename_i hs
    obtain rfl := Option.some.inj h
    obtain ⟨hn, hc⟩ := reads8 hs.1 hr0
    cases A0 with
    | some ad =>
      have h := rsum_some ad c0 (u8s l0) w (by rw [u8s_len]; omega) (hc ad rfl)
      rw [u8s_len] at h
      exact h.mono fun e w' hq => ⟨hq.1, ⟨hq.2⟩⟩
    | none =>
      obtain rfl : l0 = [] := by rcases hn with hn | hn; · exact hn
                                 · exact absurd rfl hn
      exact (rsum_none c0 w).mono fun e w' hq => ⟨hq.1, ⟨hq.2⟩⟩
  · cases h

def checksum_Seal.f (l0 : List Int) : Option (List Int) := if Byt l0 ∧ l0.length < 1000000000000 then some (ints (Ck.shutIt (u8s l0))) else none
theorem checksum_Seal.calls (A0 : Option Addr) (c0 : Nat) (l0 : List Int) (r : List Int) (w : World) (hr0 : Kd.C (Kd.int .u8) w A0 l0.length l0) (hc0 : l0.length ≤ c0)
    (h : checksum_Seal.f l0 = some r) :
    Calls Try.prog 30 #[.slice A0 l0.length c0] w fun e w' => ∃ v0_ : Value, e = .returned v0_ ∧ Kd.R (Kd.int .u8) 5 w' w.heap.size (fun _ => True) v0_ r ∧ Below w.heap.size w w' := by
  unfold checksum_Seal.f at h
  split at h
  · rename_i hs
    obtain rfl := Option.some.inj h
    obtain ⟨hn, hc⟩ := reads8 hs.1 hr0
    have h := seal_any A0 c0 (u8s l0) w (by rw [u8s_len]; omega) (by rw [u8s_len]; omega) (nil_of hn) hc (by rw [u8s_len]; exact hc0)
    rw [u8s_len] at h
    refine h.mono fun e w' hq => ?_
    obtain ⟨⟨v, he, ho⟩, hb⟩ := hq
    refine ⟨v, he, ?_, hb⟩
    rw [vals_ints, ← ints_len] at ho
    exact Kd.R_of_own ho (fun _ _ => trivial)
  · cases h

def checksum_Unseal.f (l0 : List Int) : Option (List Int × Int) :=
  if Byt l0 ∧ l0.length < 1000000000000 then
    (if l0.length < 4 then some ([], 10)
     else if Ck.le4 (Ck.sum ((u8s l0).take (l0.length - 4))) = (u8s l0).drop (l0.length - 4) then some (ints ((u8s l0).take (l0.length - 4)), 0) else some ([], 9))
  else none
theorem checksum_Unseal.calls (A0 : Option Addr) (c0 : Nat) (l0 : List Int) (r1 : List Int) (r2 : Int) (w : World) (hr0 : Kd.C (Kd.int .u8) w A0 l0.length l0) (hc0 : l0.length ≤ c0)
    (h : checksum_Unseal.f l0 = some (r1, r2)) :
    Calls Try.prog 31 #[.slice A0 l0.length c0] w fun e w' => ∃ v0_ : Value, e = .returned (.tuple #[v0_, .int .i64 r2]) ∧ Kd.R (Kd.int .u8) 5 w' w.heap.size (fun _ => True) v0_ r1 ∧ Below w.heap.size w w' := by
  unfold checksum_Unseal.f at h
  split at h
  · rename_i hs
    obtain ⟨hn, hc⟩ := reads8 hs.1 hr0
    split at h
    · rename_i h4
      have h5 := unseal_short A0 c0 (u8s l0) w (by rw [u8s_len]; exact h4)
      rw [u8s_len] at h5
      have he := Option.some.inj h
      simp only [Prod.mk.injEq] at he
      obtain ⟨rfl, rfl⟩ := he
      exact h5.mono fun e w' hq => ⟨_, hq.1, Kd.R_nil _ _ _ _ _, hq.2⟩
    · rename_i h4
      obtain ⟨ad, rfl⟩ : ∃ ad, A0 = some ad := by
        cases A0 with
        | some ad => exact ⟨ad, rfl⟩
        | none => rcases hn with rfl | hn
                  · exact absurd (by decide) h4
                  · exact absurd rfl hn
      have h5 := unseal_long ad c0 (l0.length - 4) (u8s l0) w (by rw [u8s_len]; omega) (by rw [u8s_len]; omega) (by rw [u8s_len]; omega) (hc ad rfl) (by rw [u8s_len]; exact hc0)
      rw [u8s_len] at h5
      refine h5.mono fun e w' hq => ?_
      obtain ⟨hq, hb⟩ := hq
      split at h
      · rename_i hg
        rw [if_pos hg] at hq
        have he := Option.some.inj h
        simp only [Prod.mk.injEq] at he
        obtain ⟨rfl, rfl⟩ := he
        obtain ⟨v, he, ho⟩ := hq
        refine ⟨v, he, ?_, hb⟩
        rw [vals_ints] at ho
        have hl : (ints ((u8s l0).take (l0.length - 4))).length = l0.length - 4 := by rw [ints_len, List.length_take, u8s_len]; omega
        generalize ints ((u8s l0).take (l0.length - 4)) = m at *
        rw [← hl] at ho
        exact Kd.R_of_own ho (fun _ _ => trivial)
      · rename_i hg
        rw [if_neg hg] at hq
        have he := Option.some.inj h
        simp only [Prod.mk.injEq] at he
        obtain ⟨rfl, rfl⟩ := he
        exact ⟨_, hq, Kd.R_nil _ _ _ _ _, hb⟩
  · cases h

def U32 (x : Int) : Prop := 0 ≤ x ∧ x < 4294967296
instance (x : Int) : Decidable (U32 x) := inferInstanceAs (Decidable (_ ∧ _))
def checksum_Combine.f (a0 a1 a2 : Int) : Option Int :=
  if U32 a0 ∧ U32 a1 ∧ a2 < 1000000000000 then (if a2 < 0 then some 0 else some ((Ck.sts (8 * a2.toNat) a0.toNat ^^^ a1.toNat : Nat) : Int)) else none
theorem checksum_Combine.calls (a0 a1 a2 : Int) (r : Int) (w : World) (h : checksum_Combine.f a0 a1 a2 = some r) :
    Calls Try.prog 34 #[.int .u32 a0, .int .u32 a1, .int .i64 a2] w fun e w' => e = .returned (.int .u32 r) ∧ Below w.heap.size w w' := by
  unfold checksum_Combine.f at h
  split at h
  · rename_i hs
    obtain ⟨⟨h1, h2⟩, ⟨h3, h4⟩, h5⟩ := hs
    split at h
    · rename_i hneg
      obtain rfl := Option.some.inj h
      exact combine_neg a0 a1 a2 hneg w
    · rename_i hneg
      obtain rfl := Option.some.inj h
      have h := combine_calls a0.toNat a1.toNat a2.toNat (by omega) (by omega) (by omega) w
      rw [Int.toNat_of_nonneg h1, Int.toNat_of_nonneg h3, Int.toNat_of_nonneg (by omega)] at h
      exact h
  · cases h

end Go.Proofs.Ytmeojlamadcedaa.Given
