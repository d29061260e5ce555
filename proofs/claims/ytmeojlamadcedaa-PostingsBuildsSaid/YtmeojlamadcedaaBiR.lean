/- bitio's Reader (bit, take, zeros, gamma, Delta, Seek, NewReader).
   Conditions: those of the theorems. -/
import Derived.Test.YtmeojlamadcedaaPoB
import Derived.OwnWalk
namespace Go.Proofs.Ytmeojlamadcedaa
open Go.RowKit Go.Sort Go.Proofs.YtmeojlamadcedaaW.PrintWords

/-- A bit reader at block a: its bytes, the bits that it may read, its position. -/
structure Rd (base : Nat) (w : World) (a : Nat) (v : Value) (by_ : List UInt8) (bl : List Bool) (pos : Nat) : Prop where
  low : base ≤ a
  blk : w.heap[a]? = some (.cells #[v, .int .i64 (bl.length : Nat), .int .i64 (pos : Nat)] 138 (0, 0))
  row : w.ownsRow base 5 1 v by_.length (vals by_)
  size : bl.length ≤ 8 * by_.length
  small : by_.length < 10000000000
  at_ : pos ≤ bl.length
  bits : Po.unpack by_ bl.length = bl
theorem Rd.later {base : Nat} {w w1 : World} {a : Nat} {v : Value} {by_ : List UInt8} {bl : List Bool} {pos : Nat} (h : Rd base w a v by_ bl pos) (hb : Below w.heap.size w w1) : Rd base w1 a v by_ bl pos :=
  ⟨h.low, blk_below h.blk hb, own_later h.row hb, h.size, h.small, h.at_, h.bits⟩
theorem Rd.moved {base : Nat} {w : World} {a : Nat} {v : Value} {by_ : List UInt8} {bl : List Bool} {pos : Nat} (h : Rd base w a v by_ bl pos) (p : Nat) (hp : p ≤ bl.length) : Rd base (w.setCell ⟨a, 2, none⟩ (.int .i64 (p : Nat))) a v by_ bl p :=
  ⟨h.low, by have h1 := blk_set h.blk 2 (.int .i64 (p : Nat)); simpa using h1, own_setCell h.row (fun e => own_apart h.row h.blk (by decide) e.symm) _, h.size, h.small, hp, h.bits⟩

set_option maxHeartbeats 2000000 in
set_option maxRecDepth 100000 in
theorem bit_calls (base a pos : Nat) (v : Value) (by_ : List UInt8) (bl : List Bool) (i : Nat) (w : World) (hR : Rd base w a v by_ bl pos) (hi : i < bl.length) :
    Calls Try.prog 111 #[.pointer (some ⟨a, 0, none⟩), .int .i64 (i : Nat)] w fun e w' => e = .returned (.int .u64 ((bl.getD i false).toNat : Nat)) ∧ w' = w := by
  have hsz := hR.size
  have hsm := hR.small
  obtain ⟨g, c, rfl, hgc⟩ := own_some hR.row (by omega)
  have c0 : w.cell? ⟨a, 0, none⟩ = some (.slice (some ⟨g, 0, none⟩) by_.length c) := (blk_cell hR.blk 0).trans rfl
  obtain ⟨j, hj⟩ : ∃ j, i / 8 = j := ⟨_, rfl⟩
  obtain ⟨r, hr⟩ : ∃ r, i % 8 = r := ⟨_, rfl⟩
  obtain ⟨x, hx⟩ : ∃ x, (by_.getD j 0).toNat = x := ⟨_, rfl⟩
  have cb : w.cell? ⟨g, j, none⟩ = some (.int .u8 (x : Nat)) := by
    rw [hR.row.cellAt _ (by omega), vals, List.getElem?_map, ← hx, List.getD_eq_getElem?_getD, List.getElem?_eq_getElem (by omega)]; rfl
  have hx8 : x < 256 := by rw [← hx]; exact (by_.getD j 0).toNat_lt
  have h7 := and_seven (v := i) (by omega)
  rw [hr] at h7
  have hdiv : (i : Int) / 8 = (j : Int) := by omega
  have hj0 : (0 : Int) ≤ (j : Int) := by omega
  have hjm : (j : Int) < (by_.length : Int) := by omega
  obtain ⟨q, hq⟩ : ∃ q, 7 - r = q := ⟨_, rfl⟩
  have hqi : RowKit.wrap64 (7 - (r : Int)) = (q : Int) := by unfold RowKit.wrap64; omega
  have hqi2 : (7 : Int) - (r : Int) = (q : Int) := by omega
  have hq0 : (0 : Int) ≤ (q : Int) := by omega
  have hq8 : (q : Int) ≤ 8 := by omega
  have hy : x / 2 ^ q < 256 := Nat.lt_of_le_of_lt (Nat.div_le_self _ _) hx8
  obtain ⟨y, hyd⟩ : ∃ y, x / 2 ^ q = y := ⟨_, rfl⟩
  have hys : (x : Int) / 2 ^ q = (y : Int) := by rw [← hyd, Int.natCast_ediv, Int.natCast_pow]; rfl
  rw [hyd] at hy
  have hyw : IntKind.u64.wrap (y : Int) = (y : Int) := by simp [IntKind.wrap, IntKind.bits, IntKind.signed]; omega
  have hand := and_one_u64 (y : Int) (by omega) (by omega)
  have hres : Hid (((y : Int) % 2) = ((bl.getD i false).toNat : Nat)) := Lib.hid (by
    have h1 := Po.unpack_at by_ bl.length i hi
    rw [hR.bits] at h1
    rw [h1]
    unfold Po.bitAt
    rw [hj, hr, hx, hq, hyd]
    rcases Nat.mod_two_eq_zero_or_one y with h | h <;> simp [h] <;> omega)
  clear hR hi hsz hsm hj hr hx hq hyd
  go_enter Try.func111, Try.ntmps111
  go_wp2
  go_ret
  exact ⟨by rw [← hres.out]; rfl, rfl⟩

theorem or_u64 {v b : Nat} (hv : v < 9223372036854775808) (hb : b < 2) : Go.bits .or .u64 ((v : Int) * 2) ((b : Nat) : Int) = ((2 * v + b : Nat) : Int) := by
  rw [show (v : Int) * 2 = ((v * 2 : Nat) : Int) from rfl, u64_or_nat _ _ (by omega) (by omega)]
  have h1 := Nat.shiftLeft_add_eq_or_of_lt (a := v) (b := b) (i := 1) (by omega)
  rw [Nat.shiftLeft_eq, Nat.pow_one] at h1
  rw [← h1, Nat.mul_comm]

set_option maxHeartbeats 2000000 in
set_option maxRecDepth 100000 in
theorem take_calls (base a pos : Nat) (v : Value) (by_ : List UInt8) (bl : List Bool) (p n : Nat) (w : World) (hR : Rd base w a v by_ bl pos) (hp : p ≤ bl.length) (hn : n ≤ 64) (hpn : p + n ≤ bl.length) :
    Calls Try.prog 107 #[.pointer (some ⟨a, 0, none⟩), .int .i64 (p : Nat), .int .i64 (n : Nat)] w fun e w' => e = .returned (.tuple #[.int .u64 (Po.num ((bl.drop p).take n) : Nat), .bool true]) ∧ w' = w := by
  have HS := Lib.hid (size_calls a bl.length w ((blk_cell hR.blk 1).trans rfl))
  have HB : Hid (∀ i, i < bl.length → Calls Try.prog 111 #[.pointer (some ⟨a, 0, none⟩), .int .i64 (i : Nat)] w fun e w' => e = .returned (.int .u64 ((bl.getD i false).toNat : Nat)) ∧ w' = w) := Lib.hid (fun i hi => bit_calls base a pos v by_ bl i w hR hi)
  have hsz := hR.size
  have hsm := hR.small
  have hd : RowKit.wrap64 ((bl.length : Int) - (p : Int)) = (bl.length : Int) - (p : Int) := by unfold RowKit.wrap64; omega
  have hz : decide ((bl.length : Int) - (p : Int) < (n : Int)) = false := by simp; omega
  clear hR
  go_enter Try.func107, Try.ntmps107
  go_wp2_with (go_at_call 102; (with_reducible refine HS.out.mono ?_); rintro e w' ⟨rfl, hw'⟩; obtain rfl := hw'.symm)
  go_loopg [8, 19] n (fun kx s8 s19 wr => ∃ (i : Nat), w = wr ∧ s8 = .int .u64 (Po.num ((bl.drop p).take i) : Nat) ∧ s19 = .int .i64 i ∧ i ≤ n ∧ n - i ≤ kx)
  case atStart => exact ⟨0, rfl, rfl, rfl, Nat.zero_le _, Nat.le_refl _⟩
  case round =>
    obtain ⟨i, rfl, rfl, rfl, hi, hk⟩ := hrel
    by_cases hlt : i < n
    · have hz2 : decide ((i : Int) < (n : Int)) = true := by simp; omega
      have hw1 : RowKit.wrap64 ((p : Int) + (i : Int)) = (p : Int) + (i : Int) := by unfold RowKit.wrap64; omega
      have hbit : Hid (Calls Try.prog 111 #[.pointer (some ⟨a, 0, none⟩), .int .i64 ((p : Int) + (i : Int))] w fun e w' => e = .returned (.int .u64 ((bl.getD (p + i) false).toNat : Nat)) ∧ w' = w) := Lib.hid (by
        have h := HB.out (p + i) (by omega)
        rwa [Int.natCast_add] at h)
      have hlen : ((bl.drop p).take i).length = i := by rw [List.length_take, List.length_drop]; omega
      have hv : Po.num ((bl.drop p).take i) < 2 ^ i := by have := Po.num_lt ((bl.drop p).take i); rwa [hlen] at this
      have hv63 : Po.num ((bl.drop p).take i) < 9223372036854775808 := Nat.lt_of_lt_of_le hv (show 2 ^ i ≤ 2 ^ 63 from Nat.pow_le_pow_right (by omega) (by omega))
      have hnext : Hid (Po.num ((bl.drop p).take (i + 1)) = 2 * Po.num ((bl.drop p).take i) + (bl.getD (p + i) false).toNat) := Lib.hid (by
        rw [List.take_add_one, List.getElem?_drop, List.getElem?_eq_getElem (by omega), Option.toList_some, Po.num_snoc, List.getD_eq_getElem?_getD, List.getElem?_eq_getElem (by omega)]; rfl)
      have hb2 : (bl.getD (p + i) false).toNat < 2 := by cases bl.getD (p + i) false <;> decide
      generalize Po.num ((bl.drop p).take i) = x at *
      generalize (bl.getD (p + i) false).toNat = b at *
      have HOR := Lib.hid (or_u64 hv63 hb2)
      have hsh : IntKind.u64.wrap ((x : Int) * 2) = (x : Int) * 2 := by
        simp [IntKind.wrap, IntKind.bits, IntKind.signed]; omega
      clear hv hlen hv63
      go_wp2_with (go_at_call 111; (with_reducible refine hbit.out.mono ?_); rintro e w' ⟨rfl, hw'⟩; obtain rfl := hw'.symm)
      go_roundg (n - (i + 1))
      case measure => omega
      case rel => exact ⟨i + 1, rfl, by rw [hnext.out, ← HOR.out], rfl, by omega, by omega⟩
    · have hz2 : decide ((i : Int) < (n : Int)) = false := by simp; omega
      obtain rfl : i = n := by omega
      go_wp2
      go_ret2
      exact ⟨rfl, rfl⟩

set_option maxHeartbeats 2000000 in
set_option maxRecDepth 100000 in
theorem take_short (base a pos : Nat) (v : Value) (by_ : List UInt8) (bl : List Bool) (p n : Nat) (w : World) (hR : Rd base w a v by_ bl pos) (hp : p ≤ bl.length) (hn : n ≤ 64) (hpn : bl.length < p + n) :
    Calls Try.prog 107 #[.pointer (some ⟨a, 0, none⟩), .int .i64 (p : Nat), .int .i64 (n : Nat)] w fun e w' => e = .returned (.tuple #[.int .u64 0, .bool false]) ∧ w' = w := by
  have HS := Lib.hid (size_calls a bl.length w ((blk_cell hR.blk 1).trans rfl))
  have hsz := hR.size
  have hsm := hR.small
  have hd : RowKit.wrap64 ((bl.length : Int) - (p : Int)) = (bl.length : Int) - (p : Int) := by unfold RowKit.wrap64; omega
  have hz : decide ((bl.length : Int) - (p : Int) < (n : Int)) = true := by simp; omega
  clear hR
  go_enter Try.func107, Try.ntmps107
  go_wp2_with (go_at_call 102; (with_reducible refine HS.out.mono ?_); rintro e w' ⟨rfl, hw'⟩; obtain rfl := hw'.symm)
  go_ret2
  exact ⟨rfl, rfl⟩
end Go.Proofs.Ytmeojlamadcedaa

namespace Go.Proofs.Ytmeojlamadcedaa
open Go.RowKit Go.Sort Go.Proofs.YtmeojlamadcedaaW.PrintWords

/-- What zeros answers, at most 63. -/
def zF (bl : List Bool) (p : Nat) : Nat × Int :=
  if 63 < Po.zc (bl.drop p) then (0, 9) else if bl.length ≤ p + Po.zc (bl.drop p) then (0, 10) else (Po.zc (bl.drop p), 0)

set_option maxHeartbeats 2000000 in
set_option maxRecDepth 100000 in
theorem zeros_calls (base a pos : Nat) (v : Value) (by_ : List UInt8) (bl : List Bool) (p : Nat) (w : World) (hR : Rd base w a v by_ bl pos) (hp : p ≤ bl.length) :
    Calls Try.prog 110 #[.pointer (some ⟨a, 0, none⟩), .int .i64 (p : Nat), .int .i64 63] w fun e w' => e = .returned (.tuple #[.int .i64 ((zF bl p).1 : Nat), .int .i64 (zF bl p).2]) ∧ w' = w := by
  have HS := Lib.hid (size_calls a bl.length w ((blk_cell hR.blk 1).trans rfl))
  have HB : Hid (∀ i, i < bl.length → Calls Try.prog 111 #[.pointer (some ⟨a, 0, none⟩), .int .i64 (i : Nat)] w fun e w' => e = .returned (.int .u64 ((bl.getD i false).toNat : Nat)) ∧ w' = w) := Lib.hid (fun i hi => bit_calls base a pos v by_ bl i w hR hi)
  have hsz := hR.size
  have hsm := hR.small
  have hzl : Po.zc (bl.drop p) ≤ bl.length - p := by have := Po.zc_le (bl.drop p); rwa [List.length_drop] at this
  have HZ0 : Hid (∀ i, i < Po.zc (bl.drop p) → bl.getD (p + i) false = false) := Lib.hid (fun i hi => by
    have h := Po.zc_zero (bl.drop p) i hi
    rwa [List.getD_eq_getElem?_getD, List.getElem?_drop, ← List.getD_eq_getElem?_getD] at h)
  have HZ1 : Hid (Po.zc (bl.drop p) < bl.length - p → bl.getD (p + Po.zc (bl.drop p)) false = true) := Lib.hid (fun h => by
    have h := Po.zc_one (bl.drop p) (by rw [List.length_drop]; exact h)
    rwa [List.getD_eq_getElem?_getD, List.getElem?_drop, ← List.getD_eq_getElem?_getD] at h)
  have HF : Hid (zF bl p = if 63 < Po.zc (bl.drop p) then (0, 9) else if bl.length ≤ p + Po.zc (bl.drop p) then (0, 10) else (Po.zc (bl.drop p), 0)) := Lib.hid rfl
  generalize Po.zc (bl.drop p) = z at *
  generalize hF : zF bl p = F at *
  clear hR hF
  go_enter Try.func110, Try.ntmps110
  go_wp2
  go_loopg [8] 64 (fun kx s8 wr => ∃ (n : Nat), w = wr ∧ s8 = .int .i64 n ∧ n ≤ 63 ∧ n ≤ z ∧ 64 - n ≤ kx)
  case atStart => exact ⟨0, rfl, rfl, by omega, Nat.zero_le _, by omega⟩
  case round =>
    obtain ⟨n, rfl, rfl, hn, hnz, hk⟩ := hrel
    have hw1 : RowKit.wrap64 ((p : Int) + (n : Int)) = (p : Int) + (n : Int) := by unfold RowKit.wrap64; omega
    by_cases hge : bl.length ≤ p + n
    · have hd : decide ((bl.length : Int) ≤ (p : Int) + (n : Int)) = true := by simp; omega
      have hFv : F = (0, 10) := by rw [HF.out, if_neg (by omega), if_pos (by omega)]
      have HFV := Lib.hid hFv
      clear hFv
      go_wp2_with (go_at_call 102; (with_reducible refine HS.out.mono ?_); rintro e w' ⟨rfl, hw'⟩; obtain rfl := hw'.symm)
      go_ret2
      exact ⟨by rw [HFV.out]; rfl, rfl⟩
    · have hd : decide ((bl.length : Int) ≤ (p : Int) + (n : Int)) = false := by simp; omega
      have hbit : Hid (Calls Try.prog 111 #[.pointer (some ⟨a, 0, none⟩), .int .i64 ((p : Int) + (n : Int))] w fun e w' => e = .returned (.int .u64 ((bl.getD (p + n) false).toNat : Nat)) ∧ w' = w) := Lib.hid (by
        have h := HB.out (p + n) (by omega)
        rwa [Int.natCast_add] at h)
      by_cases hlt : n < z
      · rw [HZ0.out n hlt] at hbit
        have hbit0 : Hid (Calls Try.prog 111 #[.pointer (some ⟨a, 0, none⟩), .int .i64 ((p : Int) + (n : Int))] w fun e w' => e = .returned (.int .u64 0) ∧ w' = w) := Lib.hid (by have h := hbit.out; exact h)
        clear hbit
        by_cases h63 : n = 63
        · have hd2 : ((n : Int) == 63) = true := by simp; omega
          have hFv : F = (0, 9) := by rw [HF.out, if_pos (by omega)]
          have HFV := Lib.hid hFv
          clear hFv h63
          go_wp2_with (first
            | (go_at_call 102; (with_reducible refine HS.out.mono ?_); rintro e w' ⟨rfl, hw'⟩; obtain rfl := hw'.symm)
            | (go_at_call 111; (with_reducible refine hbit0.out.mono ?_); rintro e w' ⟨rfl, hw'⟩; obtain rfl := hw'.symm))
          go_ret2
          exact ⟨by rw [HFV.out]; rfl, rfl⟩
        · have hd2 : ((n : Int) == 63) = false := by simp; omega
          have hn1 : RowKit.wrap64 ((n : Int) + 1) = (n : Int) + 1 := by unfold RowKit.wrap64; omega
          go_wp2_with (first
            | (go_at_call 102; (with_reducible refine HS.out.mono ?_); rintro e w' ⟨rfl, hw'⟩; obtain rfl := hw'.symm)
            | (go_at_call 111; (with_reducible refine hbit0.out.mono ?_); rintro e w' ⟨rfl, hw'⟩; obtain rfl := hw'.symm))
          go_roundg (64 - (n + 1))
          case measure => omega
          case rel => exact ⟨n + 1, rfl, rfl, by omega, by omega, by omega⟩
      · obtain rfl : z = n := by omega
        rw [HZ1.out (by omega)] at hbit
        have hbit1 : Hid (Calls Try.prog 111 #[.pointer (some ⟨a, 0, none⟩), .int .i64 ((p : Int) + (z : Int))] w fun e w' => e = .returned (.int .u64 1) ∧ w' = w) := Lib.hid (by have h := hbit.out; exact h)
        have hFv : F = (z, 0) := by rw [HF.out, if_neg (by omega), if_neg (by omega)]
        have HFV := Lib.hid hFv
        clear hFv hbit
        go_wp2_with (first
          | (go_at_call 102; (with_reducible refine HS.out.mono ?_); rintro e w' ⟨rfl, hw'⟩; obtain rfl := hw'.symm)
          | (go_at_call 111; (with_reducible refine hbit1.out.mono ?_); rintro e w' ⟨rfl, hw'⟩; obtain rfl := hw'.symm))
        go_ret2
        exact ⟨by rw [HFV.out]; rfl, rfl⟩

set_option maxHeartbeats 2000000 in
set_option maxRecDepth 100000 in
theorem gammaR_calls (base a pos : Nat) (v : Value) (by_ : List UInt8) (bl : List Bool) (p : Nat) (w : World) (hR : Rd base w a v by_ bl pos) (hp : p ≤ bl.length) :
    Calls Try.prog 106 #[.pointer (some ⟨a, 0, none⟩), .int .i64 (p : Nat)] w fun e w' => e = .returned (.tuple #[.int .u64 ((Po.gammaF bl p).1 : Nat), .int .i64 ((Po.gammaF bl p).2.1 : Nat), .int .i64 (Po.gammaF bl p).2.2]) ∧ w' = w := by
  have HZ := Lib.hid (zeros_calls base a pos v by_ bl p w hR hp)
  have hsz := hR.size
  have hsm := hR.small
  by_cases h1 : 63 < Po.zc (bl.drop p)
  · have hz : zF bl p = (0, 9) := by unfold zF; rw [if_pos h1]
    have hg : Po.gammaF bl p = (0, 0, 9) := by unfold Po.gammaF; rw [if_pos h1]
    rw [hz] at HZ
    have HG := Lib.hid hg
    clear hR hz hg
    go_enter Try.func106, Try.ntmps106
    go_wp2_with (go_at_call 110; (with_reducible refine HZ.out.mono ?_); rintro e w' ⟨rfl, hw'⟩; obtain rfl := hw'.symm)
    go_ret3
    exact ⟨by rw [HG.out]; rfl, rfl⟩
  · by_cases h2 : bl.length ≤ p + Po.zc (bl.drop p)
    · have hz : zF bl p = (0, 10) := by unfold zF; rw [if_neg h1, if_pos h2]
      have hg : Po.gammaF bl p = (0, 0, 10) := by unfold Po.gammaF; rw [if_neg h1, if_pos h2]
      rw [hz] at HZ
      have HG := Lib.hid hg
      clear hR hz hg
      go_enter Try.func106, Try.ntmps106
      go_wp2_with (go_at_call 110; (with_reducible refine HZ.out.mono ?_); rintro e w' ⟨rfl, hw'⟩; obtain rfl := hw'.symm)
      go_ret3
      exact ⟨by rw [HG.out]; rfl, rfl⟩
    · have hz : zF bl p = (Po.zc (bl.drop p), 0) := by unfold zF; rw [if_neg h1, if_neg h2]
      rw [hz] at HZ
      have hw1 : RowKit.wrap64 ((p : Int) + (Po.zc (bl.drop p) : Nat)) = (p : Int) + (Po.zc (bl.drop p) : Nat) := by unfold RowKit.wrap64; omega
      have hw2 : RowKit.wrap64 ((Po.zc (bl.drop p) : Nat) + 1) = ((Po.zc (bl.drop p) : Nat) : Int) + 1 := by unfold RowKit.wrap64; omega
      by_cases h3 : bl.length < p + Po.zc (bl.drop p) + (Po.zc (bl.drop p) + 1)
      · have hg : Po.gammaF bl p = (0, 0, 10) := by unfold Po.gammaF; rw [if_neg h1, if_neg h2, if_pos h3]
        have HT : Hid (Calls Try.prog 107 #[.pointer (some ⟨a, 0, none⟩), .int .i64 ((p : Int) + (Po.zc (bl.drop p) : Nat)), .int .i64 ((Po.zc (bl.drop p) : Nat) + 1)] w fun e w' => e = .returned (.tuple #[.int .u64 0, .bool false]) ∧ w' = w) := Lib.hid (by
          have h := take_short base a pos v by_ bl (p + Po.zc (bl.drop p)) (Po.zc (bl.drop p) + 1) w hR (by omega) (by omega) (by omega)
          rwa [Int.natCast_add] at h)
        have HG := Lib.hid hg
        clear hR hz hg
        generalize Po.zc (bl.drop p) = z at *
        go_enter Try.func106, Try.ntmps106
        go_wp2_with (first
          | (go_at_call 110; (with_reducible refine HZ.out.mono ?_); rintro e w' ⟨rfl, hw'⟩; obtain rfl := hw'.symm)
          | (go_at_call 107; (with_reducible refine HT.out.mono ?_); rintro e w' ⟨rfl, hw'⟩; obtain rfl := hw'.symm))
        go_ret3
        exact ⟨by rw [HG.out]; rfl, rfl⟩
      · have hg : Po.gammaF bl p = (Po.num ((bl.drop (p + Po.zc (bl.drop p))).take (Po.zc (bl.drop p) + 1)), p + 2 * Po.zc (bl.drop p) + 1, 0) := by unfold Po.gammaF; rw [if_neg h1, if_neg h2, if_neg h3]
        have HT : Hid (Calls Try.prog 107 #[.pointer (some ⟨a, 0, none⟩), .int .i64 ((p : Int) + (Po.zc (bl.drop p) : Nat)), .int .i64 ((Po.zc (bl.drop p) : Nat) + 1)] w fun e w' => e = .returned (.tuple #[.int .u64 (Po.num ((bl.drop (p + Po.zc (bl.drop p))).take (Po.zc (bl.drop p) + 1)) : Nat), .bool true]) ∧ w' = w) := Lib.hid (by
          have h := take_calls base a pos v by_ bl (p + Po.zc (bl.drop p)) (Po.zc (bl.drop p) + 1) w hR (by omega) (by omega) (by omega)
          rwa [Int.natCast_add] at h)
        have HG := Lib.hid hg
        have hw3 : RowKit.wrap64 (2 * ((Po.zc (bl.drop p) : Nat) : Int)) = 2 * ((Po.zc (bl.drop p) : Nat) : Int) := by unfold RowKit.wrap64; omega
        have hw4 : RowKit.wrap64 ((p : Int) + 2 * ((Po.zc (bl.drop p) : Nat) : Int)) = (p : Int) + 2 * ((Po.zc (bl.drop p) : Nat) : Int) := by unfold RowKit.wrap64; omega
        have hw5 : RowKit.wrap64 ((p : Int) + 2 * ((Po.zc (bl.drop p) : Nat) : Int) + 1) = (p : Int) + 2 * ((Po.zc (bl.drop p) : Nat) : Int) + 1 := by unfold RowKit.wrap64; omega
        clear hR hz hg
        generalize Po.num ((bl.drop (p + Po.zc (bl.drop p))).take (Po.zc (bl.drop p) + 1)) = x at *
        generalize Po.zc (bl.drop p) = z at *
        go_enter Try.func106, Try.ntmps106
        go_wp2_with (first
          | (go_at_call 110; (with_reducible refine HZ.out.mono ?_); rintro e w' ⟨rfl, hw'⟩; obtain rfl := hw'.symm)
          | (go_at_call 107; (with_reducible refine HT.out.mono ?_); rintro e w' ⟨rfl, hw'⟩; obtain rfl := hw'.symm))
        go_ret3
        refine ⟨?_, rfl⟩
        rw [HG.out]
        exact congrArg (fun q : Int => Ending.returned (.tuple #[.int .u64 (x : Nat), .int .i64 q, .int .i64 0])) (show (p : Int) + 2 * (z : Int) + 1 = ((p + 2 * z + 1 : Nat) : Int) by omega)
end Go.Proofs.Ytmeojlamadcedaa

namespace Go.Proofs.Ytmeojlamadcedaa
open Go.RowKit Go.Sort Go.Proofs.YtmeojlamadcedaaW.PrintWords

theorem Fr.one (w : World) (a j : Nat) (u : Value) : Fr (fun k => k = a) w (w.setCell ⟨a, j, none⟩ u) := Fr.set (S := fun k => k = a) (p := ⟨a, j, none⟩) (Fr.refl _ w) (.inl rfl) u

/-- What Delta leaves behind: the number and the error, the reader at its new position. -/
def DlPost (base a : Nat) (v : Value) (by_ : List UInt8) (bl : List Bool) (pos : Nat) (w : World) (e : Ending) (w' : World) : Prop :=
  e = .returned (.tuple #[.int .u64 ((Po.deltaF bl pos).1 : Nat), .int .i64 (Po.deltaF bl pos).2.2]) ∧ Rd base w' a v by_ bl (Po.deltaF bl pos).2.1 ∧ Fr (fun k => k = a) w w'

set_option maxHeartbeats 2000000 in
set_option maxRecDepth 100000 in
theorem deltaR_calls (base a pos : Nat) (v : Value) (by_ : List UInt8) (bl : List Bool) (w : World) (hR : Rd base w a v by_ bl pos) :
    Calls Try.prog 95 #[.pointer (some ⟨a, 0, none⟩)] w fun e w' => DlPost base a v by_ bl pos w e w' := by
  have HR := Lib.hid hR
  have hp := hR.at_
  have hsz := hR.size
  have hsm := hR.small
  have HG := Lib.hid (gammaR_calls base a pos v by_ bl pos w hR hp)
  have c2 : w.cell? ⟨a, 2, none⟩ = some (.int .i64 (pos : Nat)) := (blk_cell hR.blk 2).trans rfl
  have f2 : w.frozen? ⟨a, 2, none⟩ = false := blk_frozen hR.blk 2
  have hgp := Po.gammaF_pos bl pos
  have hD : Hid (Po.deltaF bl pos = if (Po.gammaF bl pos).2.2 ≠ 0 then (0, pos, (Po.gammaF bl pos).2.2)
    else if 64 < (Po.gammaF bl pos).1 then (0, pos, 9)
    else if bl.length < (Po.gammaF bl pos).2.1 + ((Po.gammaF bl pos).1 - 1) then (0, pos, 10)
    else (2 ^ ((Po.gammaF bl pos).1 - 1) + Po.num ((bl.drop (Po.gammaF bl pos).2.1).take ((Po.gammaF bl pos).1 - 1)), (Po.gammaF bl pos).2.1 + ((Po.gammaF bl pos).1 - 1), 0)) := Lib.hid rfl
  generalize Po.gammaF bl pos = G at *
  obtain ⟨m, at_, er⟩ := G
  generalize hDF : Po.deltaF bl pos = D at *
  have HDF := Lib.hid hDF
  clear hDF hR
  have hgp : er = 0 → 1 ≤ m ∧ at_ ≤ bl.length ∧ pos ≤ at_ := hgp
  by_cases he : er = 0
  · subst he
    obtain ⟨hm1, hat, hpa⟩ := hgp rfl
    by_cases h64 : 64 < m
    · have hDv : D = (0, pos, 9) := by rw [hD.out, if_neg (fun h => h rfl), if_pos h64]
      have HDV := Lib.hid hDv
      have hd : decide ((64 : Int) < (m : Int)) = true := by simp; omega
      clear hDv hD hgp
      go_enter Try.func95, Try.ntmps95
      go_wp2_with (go_at_call 106; (with_reducible refine HG.out.mono ?_); rintro e w' ⟨rfl, hw'⟩; obtain rfl := hw'.symm)
      go_ret2
      refine ⟨?_, ?_, Fr.refl _ _⟩
      · rw [HDF.out, HDV.out]; rfl
      · rw [HDF.out, HDV.out]; exact HR.out
    · have hd : decide ((64 : Int) < (m : Int)) = false := by simp; omega
      obtain ⟨n, hn⟩ : ∃ n, m - 1 = n := ⟨_, rfl⟩
      have hnm : RowKit.wrap64 ((m : Int) - 1) = (n : Int) := by unfold RowKit.wrap64; omega
      have hnm2 : (m : Int) - 1 = (n : Int) := by omega
      have hmw : RowKit.wrap64 (m : Int) = (m : Int) := by unfold RowKit.wrap64; omega
      have hD2 : Hid (D = if bl.length < at_ + n then (0, pos, 10) else (2 ^ n + Po.num ((bl.drop at_).take n), at_ + n, 0)) := Lib.hid (by
        rw [hD.out, if_neg (fun h => h rfl), if_neg h64]
        show (if bl.length < at_ + (m - 1) then _ else (2 ^ (m - 1) + Po.num ((bl.drop at_).take (m - 1)), at_ + (m - 1), (0 : Int))) = _
        rw [hn])
      have hn63 : n ≤ 63 := by omega
      clear hD hgp h64 hn
      by_cases hs : bl.length < at_ + n
      · have hDv : D = (0, pos, 10) := by rw [hD2.out, if_pos hs]
        have HDV := Lib.hid hDv
        have HT := Lib.hid (take_short base a pos v by_ bl at_ n w HR.out hat (by omega) hs)
        clear hDv hD2 hs
        go_enter Try.func95, Try.ntmps95
        go_wp2_with (first
          | (go_at_call 106; (with_reducible refine HG.out.mono ?_); rintro e w' ⟨rfl, hw'⟩; obtain rfl := hw'.symm)
          | (go_at_call 107; (with_reducible refine HT.out.mono ?_); rintro e w' ⟨rfl, hw'⟩; obtain rfl := hw'.symm))
        go_ret2
        refine ⟨?_, ?_, Fr.refl _ _⟩
        · rw [HDF.out, HDV.out]; rfl
        · rw [HDF.out, HDV.out]; exact HR.out
      · have HM := Lib.hid (HR.out.moved (at_ + n) (by omega))
        have hwa : RowKit.wrap64 ((at_ : Int) + (n : Int)) = (at_ : Int) + (n : Int) := by unfold RowKit.wrap64; omega
        have hDv : D = (2 ^ n + Po.num ((bl.drop at_).take n), at_ + n, 0) := by rw [hD2.out, if_neg hs]
        have HDV := Lib.hid hDv
        have HT := Lib.hid (take_calls base a pos v by_ bl at_ n w HR.out hat (by omega) (by omega))
        have hlen : ((bl.drop at_).take n).length = n := by rw [List.length_take, List.length_drop]; omega
        have hx : Po.num ((bl.drop at_).take n) < 2 ^ n := by have := Po.num_lt ((bl.drop at_).take n); rwa [hlen] at this
        have hn0 : (0 : Int) ≤ (n : Int) := by omega
        have hn64 : (n : Int) ≤ 64 := by omega
        generalize Po.num ((bl.drop at_).take n) = x at *
        have hp63 : 2 ^ n ≤ 2 ^ 63 := Nat.pow_le_pow_right (by omega) hn63
        have hpw : IntKind.u64.wrap ((2 : Int) ^ n) = (2 : Int) ^ n := by
          rw [show (2 : Int) ^ n = ((2 ^ n : Nat) : Int) by rw [Int.natCast_pow]; rfl]
          generalize 2 ^ n = q at *
          simp [IntKind.wrap, IntKind.bits, IntKind.signed]; omega
        have hpm : (2 : Int) ^ n % 18446744073709551616 = (2 : Int) ^ n := by
          rw [show (2 : Int) ^ n = ((2 ^ n : Nat) : Int) by rw [Int.natCast_pow]; rfl]
          generalize 2 ^ n = q at *
          omega
        have HOR : Hid (bits .or .u64 ((2 : Int) ^ n) (x : Nat) = ((2 ^ n + x : Nat) : Int)) := Lib.hid (by
          rw [show (2 : Int) ^ n = ((2 ^ n : Nat) : Int) by rw [Int.natCast_pow]; rfl, u64_or_nat _ _ (by omega) (by omega)]
          have h1 := Nat.shiftLeft_add_eq_or_of_lt (a := 1) (b := x) (i := n) hx
          rw [Nat.shiftLeft_eq, Nat.one_mul] at h1
          rw [← h1])
        clear hDv hD2 hs hlen hp63 hx
        go_enter Try.func95, Try.ntmps95
        go_wp2_with (first
          | (go_at_call 106; (with_reducible refine HG.out.mono ?_); rintro e w' ⟨rfl, hw'⟩; obtain rfl := hw'.symm)
          | (go_at_call 107; (with_reducible refine HT.out.mono ?_); rintro e w' ⟨rfl, hw'⟩; obtain rfl := hw'.symm))
        go_ret2
        refine ⟨?_, ?_, Fr.one w a 2 _⟩
        · rw [HDF.out, HDV.out, ← HOR.out]; rfl
        · rw [HDF.out, HDV.out]; exact HM.out
  · have hDv : D = (0, pos, er) := by rw [hD.out, if_pos he]
    have HDV := Lib.hid hDv
    have hd : (er != 0) = true := by simpa using he
    have hd2 : (er == 0) = false := by simpa using he
    clear hDv hD hgp
    go_enter Try.func95, Try.ntmps95
    go_wp2_with (go_at_call 106; (with_reducible refine HG.out.mono ?_); rintro e w' ⟨rfl, hw'⟩; obtain rfl := hw'.symm)
    go_ret2
    refine ⟨?_, ?_, Fr.refl _ _⟩
    · rw [HDF.out, HDV.out]; rfl
    · rw [HDF.out, HDV.out]; exact HR.out

set_option maxHeartbeats 2000000 in
set_option maxRecDepth 100000 in
theorem seekR_calls (base a pos : Nat) (v : Value) (by_ : List UInt8) (bl : List Bool) (p : Nat) (w : World) (hR : Rd base w a v by_ bl pos) (hp : p ≤ bl.length) :
    Calls Try.prog 98 #[.pointer (some ⟨a, 0, none⟩), .int .i64 (p : Nat)] w fun e w' => e = .returned (.int .i64 0) ∧ Rd base w' a v by_ bl p ∧ Fr (fun k => k = a) w w' := by
  have HS := Lib.hid (size_calls a bl.length w ((blk_cell hR.blk 1).trans rfl))
  have c2 : w.cell? ⟨a, 2, none⟩ = some (.int .i64 (pos : Nat)) := (blk_cell hR.blk 2).trans rfl
  have f2 : w.frozen? ⟨a, 2, none⟩ = false := blk_frozen hR.blk 2
  have HM := Lib.hid (hR.moved p hp)
  have hd : decide ((p : Int) < 0) = false := by simp
  have hd2 : decide ((bl.length : Int) < (p : Int)) = false := by simp; omega
  clear hR
  go_enter Try.func98, Try.ntmps98
  go_wp2_with (go_at_call 102; (with_reducible refine HS.out.mono ?_); rintro e w' ⟨rfl, hw'⟩; obtain rfl := hw'.symm)
  go_ret
  exact ⟨rfl, HM.out, Fr.one w a 2 _⟩
theorem unpack_take (b : List UInt8) (n m : Nat) (h : n ≤ 8 * m) : Po.unpack (b.take m) n = Po.unpack b n := by
  unfold Po.unpack
  refine List.map_congr_left fun i hi => ?_
  have hi := List.mem_range.mp hi
  unfold Po.bitAt
  rw [List.getD_eq_getElem?_getD, List.getElem?_take_of_lt (by omega), ← List.getD_eq_getElem?_getD]

set_option maxHeartbeats 2000000 in
set_option maxRecDepth 100000 in
theorem newR_calls (A : Option Addr) (c n : Nat) (by_ : List UInt8) (w : World) (hr : ReadsInt w .u8 A by_.length (Given.ints by_)) (hc : by_.length ≤ c) (hn : n ≤ 8 * by_.length) (hsm : by_.length < 1000000000) :
    Calls Try.prog 94 #[.slice A by_.length c, .int .i64 (n : Nat)] w fun e w' => ∃ a v, e = .returned (.tuple #[.pointer (some ⟨a, 0, none⟩), .int .i64 0]) ∧ Rd w.heap.size w' a v (by_.take ((n + 7) / 8)) (Po.unpack by_ n) 0 ∧ Below w.heap.size w w' := by
  have hd : decide ((n : Int) < 0) = false := by simp
  have hm8 : RowKit.wrap64 (8 * (by_.length : Int)) = 8 * (by_.length : Int) := by unfold RowKit.wrap64; omega
  have hd2 : decide (8 * (by_.length : Int) < (n : Int)) = false := by simp; omega
  obtain ⟨q, hq⟩ : ∃ q, (n + 7) / 8 = q := ⟨_, rfl⟩
  have hw7 : RowKit.wrap64 ((n : Int) + 7) = (n : Int) + 7 := by unfold RowKit.wrap64; omega
  have hqd : Int.tdiv ((n : Int) + 7) 8 = (q : Int) := by
    rw [Int.tdiv_eq_ediv_of_nonneg (by omega)]; omega
  have hqe : ((n : Int) + 7) / 8 = (q : Int) := by omega
  have hqw : RowKit.wrap64 (q : Int) = (q : Int) := by unfold RowKit.wrap64; omega
  have hq0 : (0 : Int) ≤ (q : Int) := by omega
  have hql : (q : Int) ≤ (by_.length : Int) := by omega
  have hqc : (q : Int) ≤ (c : Int) := by omega
  have hqn : q ≤ by_.length := by omega
  have htl : (by_.take q).length = q := by rw [List.length_take]; omega
  have HRR : Hid (ReadsInt (w.alloc (.cells #[] 5)) .u8 A q (Given.ints (by_.take q))) := Lib.hid (by
    refine ReadsInt.allocS ⟨by rw [Given.ints_len, htl], by omega, fun h0 => ?_⟩ _
    obtain ⟨ad, e, hcell⟩ := hr.2.2 (by omega)
    refine ⟨ad, e, fun j hj => ?_⟩
    rw [hcell j (by omega), Given.at_ints, Given.at_ints, List.getD_eq_getElem?_getD, List.getD_eq_getElem?_getD, List.getElem?_take_of_lt hj])
  have hmx : Hid ((([] : List Int).length + q) * 1 ≤ 140737488355328) := Lib.hid (by simp; omega)
  have HO : Hid ((w.alloc (.cells #[] 5)).ownsRow w.heap.size 5 1 (.slice (some ⟨w.heap.size, 0, none⟩) 0 0) ([] : List Int).length (nums .u8 [])) := Lib.hid (World.ownsRow_lit w #[] 0 (Nat.le_refl _) (by simp [maxLen]) rfl)
  have HQ : Hid (q = (n + 7) / 8 ∧ n ≤ 8 * q ∧ q < 1000000000) := Lib.hid (by omega)
  have HTL := Lib.hid htl
  clear hr hq htl hn hsm
  go_enter Try.func94, Try.ntmps94
  go_wp2_with (first
    | ((with_reducible refine gate_dst (N := 21) rfl ?_); refine print_append_row (w0 := w) (W := w.alloc (.cells #[] 5)) w.heap.size rfl (.tmp 15) (.tmp 20) 22 5 .u8 1 rfl (show Try.prog.underlying 22 = some (.slice 5) by kernel_rfl) (by kernel_rfl) (by decide) (.slice (some ⟨w.heap.size, 0, none⟩) 0 0) [] (Given.ints (by_.take q)) A q c rfl rfl HO.out HRR.out ((Below.refl _ w).alloc (Nat.le_refl _) _) (by simp) hmx.out ?_
       ; intro v1 w1 hown hb _ _
       ; obtain ⟨gA, gC, rfl⟩ := own_slice hown
       ; have HOWN := Lib.hid (vals_own HTL.out.symm (by rwa [List.nil_append] at hown)); have HBEL := Lib.hid hb; clear hown hb))
  go_ret2
  rw [← HQ.out.1]
  have hul : (Po.unpack by_ n).length = n := Po.unpack_len _ _
  have hb := HBEL.out
  refine ⟨w1.heap.size, .slice gA (Given.ints (by_.take q)).length gC, rfl, ⟨hb.size, ?_, ?_, ?_, ?_, Nat.zero_le _, ?_⟩, hb.alloc hb.size _⟩
  · rw [hul]; exact blk_new w1 _
  · have h := HOWN.out
    rw [HTL.out]
    exact h.alloc _
  · rw [hul, HTL.out]; exact HQ.out.2.1
  · rw [HTL.out]; have := HQ.out.2.2; omega
  · rw [hul]; exact unpack_take by_ n q HQ.out.2.1

theorem newR_bad (A : Option Addr) (c m n : Nat) (w : World) (hn : 8 * m < n) (hsm : m < 1000000000) :
    Calls Try.prog 94 #[.slice A m c, .int .i64 (n : Nat)] w fun e w' => e = .returned (.tuple #[.pointer none, .int .i64 1]) ∧ Below w.heap.size w w' := by
  have hd : decide ((n : Int) < 0) = false := by simp
  have hm8 : RowKit.wrap64 (8 * (m : Int)) = 8 * (m : Int) := by unfold RowKit.wrap64; omega
  have hd2 : decide (8 * (m : Int) < (n : Int)) = true := by simp; omega
  go_enter Try.func94, Try.ntmps94
  go_wp2
  go_ret2
  exact ⟨rfl, Below.refl _ _⟩
end Go.Proofs.Ytmeojlamadcedaa
