/- Slices of bytes, their cuts, and the calls on them (Uvarint, Take, Unseal, Equal, Encode), told by lists of bytes.
   Conditions: those of the theorems. -/
import Derived.Test.YtmeojlamadcedaaPoA
import Derived.Test.YtmeojlamadcedaaPoTake
namespace Go.Proofs.Ytmeojlamadcedaa
set_option linter.unusedSimpArgs false
set_option linter.unusedVariables false
open Go.RowKit Go.Sort Go.Proofs.YtmeojlamadcedaaW.PrintWords Go.Proofs.YtmeojlamadcedaaW.PrintLast Go.Proofs.YtmeojlamadcedaaW.PrintMore

/-- A slice of these bytes. -/
structure Bs (w : World) (A : Option Addr) (n c : Nat) (b : List UInt8) : Prop where
  len : n = b.length
  cap : n ≤ c
  rds : ReadsInt w .u8 A n (Given.ints b)
theorem Bs.C {w : World} {A : Option Addr} {n c : Nat} {b : List UInt8} (h : Bs w A n c b) : Kd.C (Kd.int .u8) w A (Given.ints b).length (Given.ints b) := by
  have h1 := h.rds
  rw [h.len, ← Given.ints_len] at h1
  exact Kd.C_of_reads (enc := Value.int .u8) (d := (0 : Int)) (h1 := fun _ => rfl) h1
theorem Bs.ofC {w : World} {A : Option Addr} {n c : Nat} {b : List UInt8} (hn : n = b.length) (hc : n ≤ c) (h : Kd.C (Kd.int .u8) w A (Given.ints b).length (Given.ints b)) : Bs w A n c b :=
  ⟨hn, hc, by
    have h1 : ReadsInt w .u8 A (Given.ints b).length (Given.ints b) := Kd.reads_of_C (enc := Value.int .u8) (d := (0 : Int)) (h1 := fun _ => rfl) h
    rw [Given.ints_len, ← hn] at h1
    exact h1⟩
theorem Bs.below {w w1 : World} {A : Option Addr} {n c : Nat} {b : List UInt8} (h : Bs w A n c b) (hb : Below w.heap.size w w1) : Bs w1 A n c b := Bs.ofC h.len h.cap (Kd.C_below h.C hb)
theorem Bs.ofTxt {w : World} {v : Value} {b : List UInt8} {n : Nat} (hn : n = b.length) (h : Given.Txt w v (Given.ints b)) : ∃ A c, v = .slice A n c ∧ Bs w A n c b := by
  obtain ⟨A, c, rfl, hc, hC⟩ := h
  rw [Given.ints_len, ← hn] at hc
  exact ⟨A, c, by rw [Given.ints_len, hn], Bs.ofC hn hc hC⟩
theorem Bs.txt {w : World} {A : Option Addr} {n c : Nat} {b : List UInt8} (h : Bs w A n c b) : Given.Txt w (.slice A n c) (Given.ints b) :=
  ⟨A, c, by rw [Given.ints_len, h.len], by rw [Given.ints_len, ← h.len]; exact h.cap, h.C⟩
theorem Bs.ofOwn {w : World} {base n : Nat} {v : Value} {b : List UInt8} (hn : n = b.length) (h : w.ownsRow base 5 1 v n (vals b)) : ∃ A c, v = .slice A n c ∧ Bs w A n c b := Bs.ofTxt hn (txt_own h)
theorem Bs.ofR {w : World} {base : Nat} {v : Value} {b : List UInt8} {n : Nat} (hn : n = b.length) (h : Kd.R (Kd.int .u8) 5 w base (fun _ => True) v (Given.ints b)) : ∃ A c, v = .slice A n c ∧ Bs w A n c b := Bs.ofTxt hn (Given.Txt.ofR h)

/-- The bytes from k on. -/
theorem Bs.cut {w : World} {A : Option Addr} {n c : Nat} {b : List UInt8} (h : Bs w A n c b) (k n1 : Nat) (b1 : List UInt8) (hk : k ≤ n) (hn1 : n1 = n - k) (hb1 : b1 = b.drop k) :
    ∃ A1 c1, (∀ W : World, (Instr.slice 22 (.slice A n c) (some (.int .i64 (k : Nat))) none none).run Try.prog W = .ok (.slice A1 n1 c1) W) ∧ ∀ W, Bs W A n c b → Bs W A1 n1 c1 b1 := by
  obtain ⟨i, hi, hi1, hi2, hi3⟩ := info5
  obtain ⟨A1, h1, h2⟩ := print_cut (P := Try.prog) 22 5 .i64 (show Try.prog.underlying 22 = some (.slice 5) by kernel_rfl) hi hi2 A n c k hk
  subst hn1
  subst hb1
  refine ⟨A1, c - k, h1, fun W hW => ⟨by rw [List.length_drop, hW.len], by have := hW.cap; omega, ?_⟩⟩
  have h3 := h2 W .u8 (Given.ints b) hW.cap hW.rds
  rwa [show (Given.ints b).drop k = Given.ints (b.drop k) from List.map_drop.symm] at h3

theorem uvB_calls {A : Option Addr} {n c : Nat} {b : List UInt8} {w : World} (h : Bs w A n c b) (hl : n < 1000000000) (x k : Nat) (er : Int) (ht : Po.tkU b 0 0 = (x, k, er)) :
    Calls Try.prog 72 #[.slice A n c] w fun e w' => e = .returned (.tuple #[.int .u64 (x : Nat), .int .i64 (k : Nat), .int .i64 er]) ∧ Below w.heap.size w w' := by
  obtain ⟨q, hq⟩ := Po.uv_ev b (by rw [← h.len]; exact hl)
  rw [ht] at hq
  have h1 := D.bitio_Uvarint.calls q A c (Given.ints b) _ _ _ w h.C (by rw [Given.ints_len, ← h.len]; exact h.cap) hq
  rw [Given.ints_len, ← h.len] at h1
  refine h1.mono fun e w' hq => ?_
  obtain ⟨he, ⟨m, rfl⟩⟩ := hq
  exact ⟨he, below_drewN (Below.refl _ _) m⟩
theorem tkB_calls {A : Option Addr} {n c : Nat} {b : List UInt8} {w : World} (h : Bs w A n c b) (hl : n < 1000000000) (x k : Nat) (er : Int) (ht : Po.tkU b 0 0 = (x, k, er)) :
    Calls Try.prog 81 #[.slice A n c] w fun e w' => e = .returned (.tuple #[.int .u64 (x : Nat), .int .i64 (k : Nat), .int .i64 er]) ∧ Below w.heap.size w w' := by
  obtain ⟨q, hq⟩ := Po.tk_ev b (by rw [← h.len]; exact hl)
  rw [ht] at hq
  have h1 := D.corporaref02_Take.calls q A c (Given.ints b) _ _ _ w h.C (by rw [Given.ints_len, ← h.len]; exact h.cap) hq
  rw [Given.ints_len, ← h.len] at h1
  refine h1.mono fun e w' hq => ?_
  obtain ⟨he, ⟨m, rfl⟩⟩ := hq
  exact ⟨he, below_drewN (Below.refl _ _) m⟩
theorem eqB_calls {A A1 : Option Addr} {n c n1 c1 : Nat} {b b1 : List UInt8} {w : World} (h : Bs w A n c b) (h1 : Bs w A1 n1 c1 b1) :
    Calls Try.prog 74 #[.slice A n c, .slice A1 n1 c1] w fun e w' => e = .returned (.bool (decide (b = b1))) ∧ Below w.heap.size w w' := by
  have hf : D.bytes_Equal.f (Given.ints b) (Given.ints b1) = some (decide (b = b1)) := by
    unfold D.bytes_Equal.f
    rw [Given.str_toList, Given.str_toList, Given.u8s_ints, Given.u8s_ints]
    congr 1
    rw [Bool.eq_iff_iff, beq_iff_eq, decide_eq_true_eq]
  have h2 := D.bytes_Equal.calls A c (Given.ints b) A1 c1 (Given.ints b1) _ w h.C (by rw [Given.ints_len, ← h.len]; exact h.cap) h1.C (by rw [Given.ints_len, ← h1.len]; exact h1.cap) hf
  rw [Given.ints_len, Given.ints_len, ← h.len, ← h1.len] at h2
  refine h2.mono fun e w' hq => ?_
  obtain ⟨he, ⟨m, rfl⟩⟩ := hq
  exact ⟨he, below_drewN (Below.refl _ _) m⟩
theorem unB_shut {A : Option Addr} {n c : Nat} {b : List UInt8} {w : World} (h : Bs w A n c b) (hl : n < 1000000000) (ho : ¬ Po.Opens b) :
    Calls Try.prog 31 #[.slice A n c] w fun e w' => ∃ v x, e = .returned (.tuple #[v, .int .i64 x]) ∧ (x = 9 ∨ x = 10) ∧ Below w.heap.size w w' := by
  have hb : Given.Byt (Given.ints b) ∧ (Given.ints b).length < 1000000000000 := ⟨Given.byt_ints _, by rw [Given.ints_len, ← h.len]; omega⟩
  have hf : Given.checksum_Unseal.f (Given.ints b) = some ([], 10) ∨ Given.checksum_Unseal.f (Given.ints b) = some ([], 9) := by
    unfold Given.checksum_Unseal.f
    rw [if_pos hb]
    by_cases h4 : (Given.ints b).length < 4
    · rw [if_pos h4]; exact .inl rfl
    · rw [if_neg h4, Given.u8s_ints, Given.ints_len, if_neg]
      · exact .inr rfl
      · rw [Given.ints_len] at h4
        exact fun hh => ho ⟨h4, hh⟩
  have key : ∀ x, Given.checksum_Unseal.f (Given.ints b) = some ([], x) → Calls Try.prog 31 #[.slice A n c] w fun e w' => ∃ v, e = .returned (.tuple #[v, .int .i64 x]) ∧ Below w.heap.size w w' := fun x hx => by
    have h1 := Given.checksum_Unseal.calls A c (Given.ints b) _ _ w h.C (by rw [Given.ints_len, ← h.len]; exact h.cap) hx
    rw [Given.ints_len, ← h.len] at h1
    refine h1.mono fun e w' hq => ?_
    obtain ⟨v, he, _, hb⟩ := hq
    exact ⟨v, he, hb⟩
  rcases hf with hf | hf
  · refine (key _ hf).mono fun e w' hq => ?_
    obtain ⟨v, he, hb⟩ := hq
    exact ⟨v, 10, he, .inr rfl, hb⟩
  · refine (key _ hf).mono fun e w' hq => ?_
    obtain ⟨v, he, hb⟩ := hq
    exact ⟨v, 9, he, .inl rfl, hb⟩
theorem unB_open {A : Option Addr} {n c : Nat} {b : List UInt8} {w : World} (h : Bs w A n c b) (hl : n < 1000000000) (ho : Po.Opens b) (pn : Nat) (hpn : pn = n - 4) :
    Calls Try.prog 31 #[.slice A n c] w fun e w' => ∃ A1 c1, e = .returned (.tuple #[.slice A1 pn c1, .int .i64 0]) ∧ Bs w' A1 pn c1 (b.take (b.length - 4)) ∧ Below w.heap.size w w' := by
  have hb : Given.Byt (Given.ints b) ∧ (Given.ints b).length < 1000000000000 := ⟨Given.byt_ints _, by rw [Given.ints_len, ← h.len]; omega⟩
  have hf : Given.checksum_Unseal.f (Given.ints b) = some (Given.ints (b.take (b.length - 4)), 0) := by
    unfold Given.checksum_Unseal.f
    rw [if_pos hb, Given.u8s_ints, Given.ints_len, if_neg ho.1, if_pos ho.2]
  have h1 := Given.checksum_Unseal.calls A c (Given.ints b) _ _ w h.C (by rw [Given.ints_len, ← h.len]; exact h.cap) hf
  rw [Given.ints_len, ← h.len] at h1
  refine h1.mono fun e w' hq => ?_
  obtain ⟨v, he, hR, hb⟩ := hq
  obtain ⟨A1, c1, rfl, hB⟩ := Bs.ofR (n := pn) (by rw [List.length_take, hpn, h.len]; omega) hR
  exact ⟨A1, c1, he, by rw [← h.len]; exact hB, hb⟩
theorem enB_calls {base la : Nat} {gv sv : Value} {l : List Int} {w : World} (hL : IsList base w la gv sv l) (en : Nat) (hen : en = (Po.Enc l).length) :
    Calls Try.prog 37 #[.pointer (some ⟨la, 0, none⟩)] w fun e w' => ∃ A c, e = .returned (.slice A en c) ∧ Bs w' A en c (Po.Enc l) ∧ Below w.heap.size w w' := by
  refine (encode_calls base la gv sv l w hL).mono fun e w' hq => ?_
  obtain ⟨v, he, ho, hb⟩ := hq
  rw [← hen] at ho
  obtain ⟨A, c, rfl, hB⟩ := Bs.ofOwn hen ho
  exact ⟨A, c, he, hB, hb⟩
theorem own_C {w : World} {base n : Nat} {v : Value} {l : List Int} (hn : n = l.length) (h : w.ownsRow base 3 1 v n (nums .i64 l)) : ∃ A c, v = .slice A l.length c ∧ l.length ≤ c ∧ Kd.C (Kd.int .i64) w A l.length l := by
  subst hn
  exact Kd.R_reads (Kd.R_of_own (enc := Value.int .i64) (h1 := fun _ => rfl) (ok := fun _ => True) h (fun _ _ => trivial))
theorem IsList.lower {base b0 : Nat} {w : World} {a : Nat} {gv sv : Value} {l : List Int} (h : IsList base w a gv sv l) (hb : b0 ≤ base) : IsList b0 w a gv sv l :=
  ⟨Nat.le_trans hb h.low, h.valid, h.len, h.blk, own_less h.gaps hb, own_less h.skips hb⟩
end Go.Proofs.Ytmeojlamadcedaa
