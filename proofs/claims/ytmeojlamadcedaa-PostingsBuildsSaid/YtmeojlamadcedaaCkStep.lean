/- checksum.step and the specification's step: they read nothing and make nothing, and return the value after n bits.
   Conditions: those of the theorems. -/
import Derived.Test.YtmeojlamadcedaaProg
import Derived.Test.YtmeojlamadcedaaCkPure
import Derived.WalkKit
import Derived.Deep.LoopGhost
import Derived.Deep.Draws
import Derived.Deep.QuietTactic
import Derived.Sort.Walk0
import Derived.Lib.Hide
import Derived.Lib.MinMax
import Derived.Shelf.Abstract
import Derived.Below
import Derived.Laws.BitsAllLaws
namespace Go.Proofs.Ytmeojlamadcedaa
open Go.RowKit Go.Sort

/-- What one round's numbers are. -/
theorem st_odd {v : Nat} (hv : v < 2 ^ 32) (h : v % 2 = 1) : bits .xor .u32 (((v : Nat) : Int) / 2) 2197175160 = ((Ck.st v : Nat) : Int) := by
  rw [show ((v : Int) / 2) = ((v / 2 : Nat) : Int) from by omega, show (2197175160 : Int) = ((2197175160 : Nat) : Int) from rfl, u32_xor_nat _ _ (by omega) (by omega)]
  unfold Ck.st; rw [if_pos h]; rfl
theorem st_even {v : Nat} (h : ¬ v % 2 = 1) : ((v : Nat) : Int) / 2 = ((Ck.st v : Nat) : Int) := by
  unfold Ck.st; rw [if_neg h]; omega
theorem and_one {v : Nat} (hv : v < 2 ^ 32) : bits .and .u32 ((v : Nat) : Int) 1 = ((v % 2 : Nat) : Int) := by
  rw [show (1 : Int) = ((1 : Nat) : Int) from rfl, u32_and_nat _ _ (by omega) (by omega), nat_mask1]

set_option maxHeartbeats 1000000 in
theorem step_calls (v n : Nat) (hv : v < 2 ^ 32) (hn : n < 100) (w : World) :
    Calls Try.prog 65 #[.int .u32 v, .int .i64 n] w fun e w' => e = .returned (.int .u32 (Ck.sts n v)) ∧ ∃ q, w' = w.drewN q := by
  go_enter Try.func65, Try.ntmps65
  go_wp2
  go_loopg [0, 6] n (fun kx s0 s6 wr => ∃ (i q : Nat), s0 = .int .u32 (Ck.sts i v) ∧ s6 = .int .i64 i ∧ i ≤ n ∧ n - i ≤ kx ∧ wr = w.drewN q)
  case atStart => exact ⟨0, 0, rfl, rfl, by omega, by omega, rfl⟩
  case round =>
    obtain ⟨i, q, rfl, rfl, hi, hk, rfl⟩ := hrel
    by_cases hlt : i < n
    · have hz : decide ((i : Int) < (n : Int)) = true := by simpa using hlt
      have hvi : Ck.sts i v < 2 ^ 32 := Ck.sts_lt _ _ hv
      have hand := and_one hvi
      have hsucc : Ck.sts (i + 1) v = Ck.st (Ck.sts i v) := Ck.sts_succ _ _
      generalize Ck.sts i v = u at *
      have h0 : (0 : Int) ≤ (u : Int) := by omega
      by_cases ho : u % 2 = 1
      · have hx := st_odd hvi ho
        have hd : decide (((u % 2 : Nat) : Int) = 1) = true := by simp [ho]
        go_wp2
        go_roundg (n - (i + 1))
        case measure => omega
        case rel => exact ⟨i + 1, q, by rw [hsucc], rfl, by omega, by omega, rfl⟩
      · have hx := st_even ho
        have hd : decide (((u % 2 : Nat) : Int) = 1) = false := by simp; omega
        go_wp2
        go_roundg (n - (i + 1))
        case measure => omega
        case rel => exact ⟨i + 1, q, by rw [hsucc], rfl, by omega, by omega, rfl⟩
    · have hz : decide ((i : Int) < (n : Int)) = false := by simpa using hlt
      obtain rfl : i = n := by omega
      go_wp2
      go_ret
      exact ⟨rfl, q, rfl⟩

set_option maxHeartbeats 1000000 in
theorem rstep_calls (v : Nat) (hv : v < 2 ^ 32) (w : World) :
    Calls Try.prog 66 #[.int .u32 v] w fun e w' => e = .returned (.int .u32 (Ck.sts 8 v)) ∧ ∃ q, w' = w.drewN q := by
  go_enter Try.func66, Try.ntmps66
  go_wp2
  go_loopg [0, 3] 8 (fun kx s0 s6 wr => ∃ (i q : Nat), s0 = .int .u32 (Ck.sts i v) ∧ s6 = .int .i64 i ∧ i ≤ 8 ∧ 8 - i ≤ kx ∧ wr = w.drewN q)
  case atStart => exact ⟨0, 0, rfl, rfl, by omega, by omega, rfl⟩
  case round =>
    obtain ⟨i, q, rfl, rfl, hi, hk, rfl⟩ := hrel
    by_cases hlt : i < 8
    · have hz : decide ((i : Int) < 8) = true := by simp; omega
      have hvi : Ck.sts i v < 2 ^ 32 := Ck.sts_lt _ _ hv
      have hand := and_one hvi
      have hsucc : Ck.sts (i + 1) v = Ck.st (Ck.sts i v) := Ck.sts_succ _ _
      generalize Ck.sts i v = u at *
      have h0 : (0 : Int) ≤ (u : Int) := by omega
      by_cases ho : u % 2 = 1
      · have hx := st_odd hvi ho
        have hd : decide (((u % 2 : Nat) : Int) = 1) = true := by simp [ho]
        go_wp2
        go_roundg (8 - (i + 1))
        case measure => omega
        case rel => exact ⟨i + 1, q, by rw [hsucc], rfl, by omega, by omega, rfl⟩
      · have hx := st_even ho
        have hd : decide (((u % 2 : Nat) : Int) = 1) = false := by simp; omega
        go_wp2
        go_roundg (8 - (i + 1))
        case measure => omega
        case rel => exact ⟨i + 1, q, by rw [hsucc], rfl, by omega, by omega, rfl⟩
    · have hz : decide ((i : Int) < 8) = false := by simp; omega
      obtain rfl : i = 8 := by omega
      go_wp2
      go_ret
      exact ⟨rfl, q, rfl⟩

theorem reg_take {l : List UInt8} {i : Nat} (h : i < l.length) (v : Nat) : Ck.reg v (l.take (i + 1)) = Ck.by1 (Ck.reg v (l.take i)) (l.getD i 0).toNat := by
  have e : l.take (i + 1) = l.take i ++ [l.getD i 0] := by
    rw [List.take_add_one, List.getD_eq_getElem?_getD, List.getElem?_eq_getElem h]; rfl
  rw [e, Ck.reg_append]; rfl
theorem xor_u32 {a b : Nat} (ha : a < 2 ^ 32) (hb : b < 2 ^ 32) : bits .xor .u32 ((a : Nat) : Int) ((b : Nat) : Int) = ((a ^^^ b : Nat) : Int) := u32_xor_nat _ _ (by omega) (by omega)

theorem not_u32 {a : Nat} (ha : a < 2 ^ 32) : bits .xor .u32 IntKind.u32.max ((a : Nat) : Int) = ((Ck.neg a : Nat) : Int) := by
  rw [show IntKind.u32.max = ((4294967295 : Nat) : Int) from rfl, xor_u32 (by omega) ha, Nat.xor_comm]; rfl

set_option maxHeartbeats 1000000 in
theorem rsum_some (ad : Addr) (cap : Nat) (l : List UInt8) (w : World) (hn : l.length < 1152921504606846976)
    (hc : ∀ i, i < l.length → w.cell? (ad.add i) = some (.int .u8 ((l.getD i 0).toNat : Nat))) :
    Calls Try.prog 28 #[.slice (some ad) l.length cap] w fun e w' => e = .returned (.int .u32 (Ck.sum l)) ∧ ∃ q, w' = w.drewN q := by
  have HC := Lib.hid hc
  clear hc
  have HR := Lib.hid (fun i => @reg_take l i)
  have HL := Lib.hid (fun i => Ck.reg_lt (l.take i) 4294967295 (by omega))
  have HE : Hid (Ck.neg (Ck.reg 4294967295 (l.take l.length)) = Ck.sum l) := Lib.hid (by rw [List.take_length]; rfl)
  generalize hN : l.length = N at *
  go_enter Try.func28, Try.ntmps28
  go_wp2
  go_loopg [3, 8] N (fun kx s3 s8 wr => ∃ (i q : Nat), s3 = .int .u32 (Ck.reg 4294967295 (l.take i)) ∧ s8 = .int .i64 i ∧ i ≤ N ∧ N - i ≤ kx ∧ wr = w.drewN q)
  case atStart => exact ⟨0, 0, rfl, rfl, by omega, by omega, rfl⟩
  case round =>
    obtain ⟨i, q, rfl, rfl, hi, hk, rfl⟩ := hrel
    by_cases hlt : i < N
    · have hz : decide ((i : Int) < (N : Int)) = true := by simpa using hlt
      have hlt' : (i : Int) < (N : Int) := by omega
      have h0' : (0 : Int) ≤ (i : Int) := by omega
      have hcl := HC.out i hlt
      have hvi := HL.out i
      have hsucc := HR.out i (by omega) 4294967295
      have hb := (l.getD i 0).toNat_lt
      generalize Ck.reg 4294967295 (l.take i) = u at *
      generalize (l.getD i 0).toNat = b at *
      have h0 : (0 : Int) ≤ (u : Int) := by omega
      have hx := xor_u32 hvi (show b < 2 ^ 32 by omega)
      have hxl : u ^^^ b < 2 ^ 32 := Nat.xor_lt_two_pow hvi (by omega)
      go_wp2_with (go_at_call 66; (with_reducible refine (rstep_calls (u ^^^ b) hxl _).mono ?_); rintro e w' ⟨rfl, nd, rfl⟩)
      go_roundg (N - (i + 1))
      case measure => omega
      case rel => exact ⟨i + 1, q + nd, by rw [hsucc]; rfl, rfl, by omega, by omega, rfl⟩
    · have hz : decide ((i : Int) < (N : Int)) = false := by simpa using hlt
      obtain rfl : i = N := by omega
      have hvi := HL.out i
      have he := HE.out
      have hx := not_u32 hvi
      rw [he] at hx
      go_wp2
      go_ret
      exact ⟨rfl, q, rfl⟩

theorem rsum_none (cap : Nat) (w : World) :
    Calls Try.prog 28 #[.slice none 0 cap] w fun e w' => e = .returned (.int .u32 (Ck.sum [])) ∧ ∃ q, w' = w.drewN q := by
  go_enter Try.func28, Try.ntmps28
  go_wp2
  go_loopg [3, 8] 0 (fun kx s3 s8 wr => ∃ (q : Nat), s3 = .int .u32 4294967295 ∧ s8 = .int .i64 0 ∧ 0 ≤ kx ∧ wr = w.drewN q)
  case atStart => exact ⟨0, rfl, rfl, by omega, rfl⟩
  case round =>
    obtain ⟨q, rfl, rfl, hk, rfl⟩ := hrel
    go_wp2
    go_ret
    exact ⟨rfl, q, rfl⟩

end Go.Proofs.Ytmeojlamadcedaa
