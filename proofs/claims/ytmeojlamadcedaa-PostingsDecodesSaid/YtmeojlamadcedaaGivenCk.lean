/- Chapter 3: the walks of the program's and the reference's functions (step, Sum, matrix, Combine, Seal, Unseal), their contracts.
   Conditions: those of the theorems. -/
import Derived.Test.YtmeojlamadcedaaProg
import Derived.Test.YtmeojlamadcedaaCkPure
import Derived.WalkKit
import Derived.Deep.LoopGhost
import Derived.Deep.Draws
import Derived.Deep.QuietTactic
import Derived.Sort.Walk0
import Derived.Lib.Hide
import Derived.Lib.MinMax
import Derived.Shelf.Abstract
import Derived.Below
import Derived.Laws.BitsAllLaws
import Derived.Test.YtmeojlamadcedaaWWords
import Derived.WalkSmall
import Derived.WalkSpells
import Derived.Lib.RabinKarpLaws
import Derived.Deep.RegionLawGrows
import Derived.Deep.RegionWith
import Derived.Deep.Onto
import Derived.StillTailTactics
import Derived.Laws.Cover3
import Derived.ChangeKeysEq
import Derived.Laws.StructEq
import Derived.Test.YtmeojlamadcedaaWSized
import Derived.Test.YtmeojlamadcedaaWMore

namespace Go.Proofs.Ytmeojlamadcedaa
open Go.RowKit Go.Sort

/-- What one round's numbers are. -/
theorem st_odd {v : Nat} (hv : v < 2 ^ 32) (h : v % 2 = 1) : bits .xor .u32 (((v : Nat) : Int) / 2) 2197175160 = ((Ck.st v : Nat) : Int) := by
  rw [show ((v : Int) / 2) = ((v / 2 : Nat) : Int) from by omega, show (2197175160 : Int) = ((2197175160 : Nat) : Int) from rfl, u32_xor_nat _ _ (by omega) (by omega)]
  unfold Ck.st; rw [if_pos h]; rfl
theorem st_even {v : Nat} (h : ¬ v % 2 = 1) : ((v : Nat) : Int) / 2 = ((Ck.st v : Nat) : Int) := by
  unfold Ck.st; rw [if_neg h]; omega
theorem and_one {v : Nat} (hv : v < 2 ^ 32) : bits .and .u32 ((v : Nat) : Int) 1 = ((v % 2 : Nat) : Int) := by
  rw [show (1 : Int) = ((1 : Nat) : Int) from rfl, u32_and_nat _ _ (by omega) (by omega), nat_mask1]

set_option maxHeartbeats 1000000 in
theorem step_calls (v n : Nat) (hv : v < 2 ^ 32) (hn : n < 100) (w : World) :
    Calls Try.prog 65 #[.int .u32 v, .int .i64 n] w fun e w' => e = .returned (.int .u32 (Ck.sts n v)) ∧ ∃ q, w' = w.drewN q := by
  go_enter Try.func65, Try.ntmps65
  go_wp2
  go_loopg [0, 6] n (fun kx s0 s6 wr => ∃ (i q : Nat), s0 = .int .u32 (Ck.sts i v) ∧ s6 = .int .i64 i ∧ i ≤ n ∧ n - i ≤ kx ∧ wr = w.drewN q)
  case atStart => exact ⟨0, 0, rfl, rfl, by omega, by omega, rfl⟩
  case round =>
    obtain ⟨i, q, rfl, rfl, hi, hk, rfl⟩ := hrel
    by_cases hlt : i < n
    · have hz : decide ((i : Int) < (n : Int)) = true := by simpa using hlt
      have hvi : Ck.sts i v < 2 ^ 32 := Ck.sts_lt _ _ hv
      have hand := and_one hvi
      have hsucc : Ck.sts (i + 1) v = Ck.st (Ck.sts i v) := Ck.sts_succ _ _
      generalize Ck.sts i v = u at *
      have h0 : (0 : Int) ≤ (u : Int) := by omega
      by_cases ho : u % 2 = 1
      · have hx := st_odd hvi ho
        have hd : decide (((u % 2 : Nat) : Int) = 1) = true := by simp [ho]
        go_wp2
        go_roundg (n - (i + 1))
        case measure => omega
        case rel => exact ⟨i + 1, q, by rw [hsucc], rfl, by omega, by omega, rfl⟩
      · have hx := st_even ho
        have hd : decide (((u % 2 : Nat) : Int) = 1) = false := by simp; omega
        go_wp2
        go_roundg (n - (i + 1))
        case measure => omega
        case rel => exact ⟨i + 1, q, by rw [hsucc], rfl, by omega, by omega, rfl⟩
    · have hz : decide ((i : Int) < (n : Int)) = false := by simpa using hlt
      obtain rfl : i = n := by omega
      go_wp2
      go_ret
      exact ⟨rfl, q, rfl⟩

set_option maxHeartbeats 1000000 in
theorem rstep_calls (v : Nat) (hv : v < 2 ^ 32) (w : World) :
    Calls Try.prog 66 #[.int .u32 v] w fun e w' => e = .returned (.int .u32 (Ck.sts 8 v)) ∧ ∃ q, w' = w.drewN q := by
  go_enter Try.func66, Try.ntmps66
  go_wp2
  go_loopg [0, 3] 8 (fun kx s0 s6 wr => ∃ (i q : Nat), s0 = .int .u32 (Ck.sts i v) ∧ s6 = .int .i64 i ∧ i ≤ 8 ∧ 8 - i ≤ kx ∧ wr = w.drewN q)
  case atStart => exact ⟨0, 0, rfl, rfl, by omega, by omega, rfl⟩
  case round =>
    obtain ⟨i, q, rfl, rfl, hi, hk, rfl⟩ := hrel
    by_cases hlt : i < 8
    · have hz : decide ((i : Int) < 8) = true := by simp; omega
      have hvi : Ck.sts i v < 2 ^ 32 := Ck.sts_lt _ _ hv
      have hand := and_one hvi
      have hsucc : Ck.sts (i + 1) v = Ck.st (Ck.sts i v) := Ck.sts_succ _ _
      generalize Ck.sts i v = u at *
      have h0 : (0 : Int) ≤ (u : Int) := by omega
      by_cases ho : u % 2 = 1
      · have hx := st_odd hvi ho
        have hd : decide (((u % 2 : Nat) : Int) = 1) = true := by simp [ho]
        go_wp2
        go_roundg (8 - (i + 1))
        case measure => omega
        case rel => exact ⟨i + 1, q, by rw [hsucc], rfl, by omega, by omega, rfl⟩
      · have hx := st_even ho
        have hd : decide (((u % 2 : Nat) : Int) = 1) = false := by simp; omega
        go_wp2
        go_roundg (8 - (i + 1))
        case measure => omega
        case rel => exact ⟨i + 1, q, by rw [hsucc], rfl, by omega, by omega, rfl⟩
    · have hz : decide ((i : Int) < 8) = false := by simp; omega
      obtain rfl : i = 8 := by omega
      go_wp2
      go_ret
      exact ⟨rfl, q, rfl⟩

theorem reg_take {l : List UInt8} {i : Nat} (h : i < l.length) (v : Nat) : Ck.reg v (l.take (i + 1)) = Ck.by1 (Ck.reg v (l.take i)) (l.getD i 0).toNat := by
  have e : l.take (i + 1) = l.take i ++ [l.getD i 0] := by
    rw [List.take_add_one, List.getD_eq_getElem?_getD, List.getElem?_eq_getElem h]; rfl
  rw [e, Ck.reg_append]; rfl
theorem xor_u32 {a b : Nat} (ha : a < 2 ^ 32) (hb : b < 2 ^ 32) : bits .xor .u32 ((a : Nat) : Int) ((b : Nat) : Int) = ((a ^^^ b : Nat) : Int) := u32_xor_nat _ _ (by omega) (by omega)

theorem not_u32 {a : Nat} (ha : a < 2 ^ 32) : bits .xor .u32 IntKind.u32.max ((a : Nat) : Int) = ((Ck.neg a : Nat) : Int) := by
  rw [show IntKind.u32.max = ((4294967295 : Nat) : Int) from rfl, xor_u32 (by omega) ha, Nat.xor_comm]; rfl

set_option maxHeartbeats 1000000 in
theorem rsum_some (ad : Addr) (cap : Nat) (l : List UInt8) (w : World) (hn : l.length < 1152921504606846976)
    (hc : ∀ i, i < l.length → w.cell? (ad.add i) = some (.int .u8 ((l.getD i 0).toNat : Nat))) :
    Calls Try.prog 28 #[.slice (some ad) l.length cap] w fun e w' => e = .returned (.int .u32 (Ck.sum l)) ∧ ∃ q, w' = w.drewN q := by
  have HC := Lib.hid hc
  clear hc
  have HR := Lib.hid (fun i => @reg_take l i)
  have HL := Lib.hid (fun i => Ck.reg_lt (l.take i) 4294967295 (by omega))
  have HE : Hid (Ck.neg (Ck.reg 4294967295 (l.take l.length)) = Ck.sum l) := Lib.hid (by rw [List.take_length]; rfl)
  generalize hN : l.length = N at *
  go_enter Try.func28, Try.ntmps28
  go_wp2
  go_loopg [3, 8] N (fun kx s3 s8 wr => ∃ (i q : Nat), s3 = .int .u32 (Ck.reg 4294967295 (l.take i)) ∧ s8 = .int .i64 i ∧ i ≤ N ∧ N - i ≤ kx ∧ wr = w.drewN q)
  case atStart => exact ⟨0, 0, rfl, rfl, by omega, by omega, rfl⟩
  case round =>
    obtain ⟨i, q, rfl, rfl, hi, hk, rfl⟩ := hrel
    by_cases hlt : i < N
    · have hz : decide ((i : Int) < (N : Int)) = true := by simpa using hlt
      have hlt' : (i : Int) < (N : Int) := by omega
      have h0' : (0 : Int) ≤ (i : Int) := by omega
      have hcl := HC.out i hlt
      have hvi := HL.out i
      have hsucc := HR.out i (by omega) 4294967295
      have hb := (l.getD i 0).toNat_lt
      generalize Ck.reg 4294967295 (l.take i) = u at *
      generalize (l.getD i 0).toNat = b at *
      have h0 : (0 : Int) ≤ (u : Int) := by omega
      have hx := xor_u32 hvi (show b < 2 ^ 32 by omega)
      have hxl : u ^^^ b < 2 ^ 32 := Nat.xor_lt_two_pow hvi (by omega)
      go_wp2_with (go_at_call 66; (with_reducible refine (rstep_calls (u ^^^ b) hxl _).mono ?_); rintro e w' ⟨rfl, nd, rfl⟩)
      go_roundg (N - (i + 1))
      case measure => omega
      case rel => exact ⟨i + 1, q + nd, by rw [hsucc]; rfl, rfl, by omega, by omega, rfl⟩
    · have hz : decide ((i : Int) < (N : Int)) = false := by simpa using hlt
      obtain rfl : i = N := by omega
      have hvi := HL.out i
      have he := HE.out
      have hx := not_u32 hvi
      rw [he] at hx
      go_wp2
      go_ret
      exact ⟨rfl, q, rfl⟩

theorem rsum_none (cap : Nat) (w : World) :
    Calls Try.prog 28 #[.slice none 0 cap] w fun e w' => e = .returned (.int .u32 (Ck.sum [])) ∧ ∃ q, w' = w.drewN q := by
  go_enter Try.func28, Try.ntmps28
  go_wp2
  go_loopg [3, 8] 0 (fun kx s3 s8 wr => ∃ (q : Nat), s3 = .int .u32 4294967295 ∧ s8 = .int .i64 0 ∧ 0 ≤ kx ∧ wr = w.drewN q)
  case atStart => exact ⟨0, rfl, rfl, by omega, rfl⟩
  case round =>
    obtain ⟨q, rfl, rfl, hk, rfl⟩ := hrel
    go_wp2
    go_ret
    exact ⟨rfl, q, rfl⟩

end Go.Proofs.Ytmeojlamadcedaa

namespace Go.Proofs.Ytmeojlamadcedaa
open Go.RowKit Go.Sort Go.Proofs.YtmeojlamadcedaaW.PrintWords

theorem and_15 {v : Nat} (hv : v < 2 ^ 32) : bits .and .u32 ((v : Nat) : Int) 15 = ((v % 16 : Nat) : Int) := by
  rw [show (15 : Int) = ((15 : Nat) : Int) from rfl, u32_and_nat _ _ (by omega) (by omega), nat_mask4]
theorem nibble {v : Nat} (hv : v < 2 ^ 32) : bits .xor .u32 (((v : Nat) : Int) / 16) ((Ck.sts 4 (v % 16) : Nat) : Int) = ((Ck.sts 4 v : Nat) : Int) := by
  rw [show ((v : Int) / 16) = ((v / 16 : Nat) : Int) from by omega, xor_u32 (by omega) (Ck.sts_lt _ _ (by omega)), ← Ck.sts4_table]

theorem step4 (v : Nat) (hv : v < 2 ^ 32) (w : World) : Calls Try.prog 65 #[.int .u32 v, .int .i64 4] w fun e w' => e = .returned (.int .u32 (Ck.sts 4 v)) ∧ ∃ q, w' = w.drewN q :=
  step_calls v 4 hv (by omega) w
theorem step8 (v : Nat) (hv : v < 2 ^ 32) (w : World) : Calls Try.prog 65 #[.int .u32 v, .int .i64 8] w fun e w' => e = .returned (.int .u32 (Ck.sts 8 v)) ∧ ∃ q, w' = w.drewN q :=
  step_calls v 8 hv (by omega) w

set_option maxHeartbeats 1000000 in
theorem sum_some (ad : Addr) (cap : Nat) (l : List UInt8) (w : World) (hn : l.length < 1152921504606846976)
    (hc : ∀ i, i < l.length → w.cell? (ad.add i) = some (.int .u8 ((l.getD i 0).toNat : Nat))) :
    Calls Try.prog 27 #[.slice (some ad) l.length cap] w fun e w' => e = .returned (.int .u32 (Ck.sum l)) ∧ Below w.heap.size w w' := by
  have HC := Lib.hid hc
  clear hc
  have HR := Lib.hid (fun i => @reg_take l i)
  have HL := Lib.hid (fun i => Ck.reg_lt (l.take i) 4294967295 (by omega))
  have HE : Hid (Ck.neg (Ck.reg 4294967295 (l.take l.length)) = Ck.sum l) := Lib.hid (by rw [List.take_length]; rfl)
  generalize hN : l.length = N at *
  go_enter Try.func27, Try.ntmps27
  go_wp2
  generalize hg : w.heap.size = g
  generalize hW0 : w.alloc _ = W0
  have hb0 : Below g w W0 := by rw [← hW0, ← hg]; exact (Below.refl _ w).alloc (Nat.le_refl _) _
  have HB0 := Lib.hid hb0
  have hk0 : W0.heap[g]? = some (.cells (Array.replicate 16 (.int .u32 0)) 81 (0, 0)) := by rw [← hW0, ← hg]; exact blk_new _ _
  clear hb0
  go_loopg [8] 16 (fun kx s8 wr => ∃ (i : Nat) (cs : Array Value) (W : World), W = wr ∧ s8 = .int .i64 i ∧ i ≤ 16 ∧ 16 - i ≤ kx ∧ Below g w wr ∧ wr.heap[g]? = some (.cells cs 81 (0, 0)) ∧ cs.size = 16 ∧ ∀ j, j < i → cs[j]? = some (.int .u32 (Ck.sts 4 j)))
  case atStart => exact ⟨0, _, _, rfl, rfl, by omega, by omega, HB0.out, hk0, rfl, fun j hj => by omega⟩
  case round =>
    obtain ⟨i, cs, Wx, rfl, rfl, hi, hk, hb, hblk, hsz, hcs⟩ := hrel
    have HB := Lib.hid hb
    have HCS := Lib.hid hcs
    have HK := Lib.hid hblk
    clear hb hcs hblk
    by_cases hlt : i < 16
    · have hz : decide ((i : Int) < 16) = true := by simp; omega
      have h0 : (0 : Int) ≤ (i : Int) := by omega
      have hlt' : (i : Int) < 16 := by omega
      obtain ⟨old, hold⟩ : ∃ old, cs[i]? = some old := ⟨_, Array.getElem?_eq_getElem (by omega)⟩
      have hcell : ∀ q, (Wx.drewN q).cell? ⟨g, i, none⟩ = some old := fun q => (blk_cell (w := Wx.drewN q) HK.out i).trans hold
      have hfr : Wx.frozen? ⟨g, i, none⟩ = false := blk_frozen HK.out i
      go_wp2_with (go_at_call 65; (with_reducible refine (step4 i (by omega) _).mono ?_); rintro e w' ⟨rfl, nd, rfl⟩)
      go_roundg (16 - (i + 1))
      case measure => omega
      case rel =>
        refine ⟨i + 1, _, _, rfl, rfl, by omega, by omega, (below_drewN HB.out nd).setCell (Nat.le_refl _) _, blk_set (blk_drewN HK.out nd) i _, by simp [hsz], fun j hj => ?_⟩
        rw [Array.getElem?_setIfInBounds]
        by_cases hij : i = j
        · subst hij; rw [if_pos rfl, if_pos (by omega)]
        · rw [if_neg hij]; exact HCS.out j (by omega)
    · have hz : decide ((i : Int) < 16) = false := by simp; omega
      obtain rfl : i = 16 := by omega
      go_wp2
      have htab : ∀ j, j < 16 → Wx.cell? ⟨g, j, none⟩ = some (.int .u32 (Ck.sts 4 j)) := fun j hj => (blk_cell HK.out j).trans (HCS.out j hj)
      have HT := Lib.hid htab
      have hcx : ∀ i, i < N → Wx.cell? (ad.add i) = some (.int .u8 ((l.getD i 0).toNat : Nat)) := fun i hi => by
        subst hg; exact cell_later HB.out (HC.out i hi)
      have HCX := Lib.hid hcx
      clear htab hcx
      go_loopg [5, 19] N (fun kx s5 s19 wr => ∃ (i q : Nat), s5 = .int .u32 (Ck.reg 4294967295 (l.take i)) ∧ s19 = .int .i64 i ∧ i ≤ N ∧ N - i ≤ kx ∧ wr = Wx.drewN q)
      case atStart => exact ⟨0, 0, rfl, rfl, by omega, by omega, rfl⟩
      case round =>
        obtain ⟨i, q, rfl, rfl, hi, hk, rfl⟩ := hrel
        by_cases hlt : i < N
        · have hz : decide ((i : Int) < (N : Int)) = true := by simpa using hlt
          have hlt' : (i : Int) < (N : Int) := by omega
          have h0' : (0 : Int) ≤ (i : Int) := by omega
          have hcl := HCX.out i hlt
          have hvi := HL.out i
          have hsucc := HR.out i (by omega) 4294967295
          have hb := (l.getD i 0).toNat_lt
          generalize Ck.reg 4294967295 (l.take i) = u at *
          generalize (l.getD i 0).toNat = b at *
          have h0 : (0 : Int) ≤ (u : Int) := by omega
          have hx := xor_u32 hvi (show b < 2 ^ 32 by omega)
          have hxl : u ^^^ b < 2 ^ 32 := Nat.xor_lt_two_pow hvi (by omega)
          have hby : Ck.by1 u b = Ck.sts 4 (Ck.sts 4 (u ^^^ b)) := Ck.sts_add 4 4 _
          generalize u ^^^ b = x at *
          have hx0 : (0 : Int) ≤ (x : Int) := by omega
          have hm1 := and_15 hxl
          have hn1 := nibble hxl
          have hc1 := HT.out (x % 16) (by omega)
          have hyl : Ck.sts 4 x < 2 ^ 32 := Ck.sts_lt _ _ hxl
          generalize Ck.sts 4 x = y at *
          have hy0 : (0 : Int) ≤ (y : Int) := by omega
          have hm2 := and_15 hyl
          have hn2 := nibble hyl
          have hc2 := HT.out (y % 16) (by omega)
          go_wp2
          go_roundg (N - (i + 1))
          case measure => omega
          case rel => exact ⟨i + 1, q, by rw [hsucc, hby], rfl, by omega, by omega, rfl⟩
        · have hz : decide ((i : Int) < (N : Int)) = false := by simpa using hlt
          obtain rfl : i = N := by omega
          have hvi := HL.out i
          have he := HE.out
          have hx := not_u32 hvi
          rw [he] at hx
          go_wp2
          go_ret
          exact ⟨rfl, below_drewN HB.out q⟩

theorem sum_none (cap : Nat) (w : World) :
    Calls Try.prog 27 #[.slice none 0 cap] w fun e w' => e = .returned (.int .u32 (Ck.sum [])) ∧ Below w.heap.size w w' := by
  go_enter Try.func27, Try.ntmps27
  go_wp2
  generalize hg : w.heap.size = g
  generalize hW0 : w.alloc _ = W0
  have hb0 : Below g w W0 := by rw [← hW0, ← hg]; exact (Below.refl _ w).alloc (Nat.le_refl _) _
  have HB0 := Lib.hid hb0
  have hk0 : W0.heap[g]? = some (.cells (Array.replicate 16 (.int .u32 0)) 81 (0, 0)) := by rw [← hW0, ← hg]; exact blk_new _ _
  clear hb0
  go_loopg [8] 16 (fun kx s8 wr => ∃ (i : Nat) (cs : Array Value) (W : World), W = wr ∧ s8 = .int .i64 i ∧ i ≤ 16 ∧ 16 - i ≤ kx ∧ Below g w wr ∧ wr.heap[g]? = some (.cells cs 81 (0, 0)) ∧ cs.size = 16)
  case atStart => exact ⟨0, _, _, rfl, rfl, by omega, by omega, HB0.out, hk0, rfl⟩
  case round =>
    obtain ⟨i, cs, Wx, rfl, rfl, hi, hk, hb, hblk, hsz⟩ := hrel
    have HB := Lib.hid hb
    have HK := Lib.hid hblk
    clear hb hblk
    by_cases hlt : i < 16
    · have hz : decide ((i : Int) < 16) = true := by simp; omega
      have h0 : (0 : Int) ≤ (i : Int) := by omega
      have hlt' : (i : Int) < 16 := by omega
      obtain ⟨old, hold⟩ : ∃ old, cs[i]? = some old := ⟨_, Array.getElem?_eq_getElem (by omega)⟩
      have hcell : ∀ q, (Wx.drewN q).cell? ⟨g, i, none⟩ = some old := fun q => (blk_cell (w := Wx.drewN q) HK.out i).trans hold
      have hfr : Wx.frozen? ⟨g, i, none⟩ = false := blk_frozen HK.out i
      go_wp2_with (go_at_call 65; (with_reducible refine (step4 i (by omega) _).mono ?_); rintro e w' ⟨rfl, nd, rfl⟩)
      go_roundg (16 - (i + 1))
      case measure => omega
      case rel => exact ⟨i + 1, _, _, rfl, rfl, by omega, by omega, (below_drewN HB.out nd).setCell (Nat.le_refl _) _, blk_set (blk_drewN HK.out nd) i _, by simp [hsz]⟩
    · have hz : decide ((i : Int) < 16) = false := by simp; omega
      obtain rfl : i = 16 := by omega
      go_wp2
      go_loopg [5, 19] 0 (fun kx s5 s19 wr => ∃ (q : Nat), s5 = .int .u32 4294967295 ∧ s19 = .int .i64 0 ∧ 0 ≤ kx ∧ wr = Wx.drewN q)
      case atStart => exact ⟨0, rfl, rfl, by omega, rfl⟩
      case round =>
        obtain ⟨q, rfl, rfl, hk, rfl⟩ := hrel
        go_wp2
        go_ret
        exact ⟨rfl, below_drewN HB.out q⟩

end Go.Proofs.Ytmeojlamadcedaa

namespace Go.Proofs.Ytmeojlamadcedaa
open Go.RowKit Go.Sort Go.Proofs.YtmeojlamadcedaaW.PrintWords

/-- Block g holds the images of the 32 bits under k steps. -/
def Mat (k : Nat) (cs : Array Value) : Prop := cs.size = 32 ∧ ∀ j, j < 32 → cs[j]? = some (.int .u32 (Ck.sts k (2 ^ j)))

theorem bit_odd {u : Nat} (h : u % 2 = 1) : decide (((u % 2 : Nat) : Int) = 1) = true := by simp [h]
theorem bit_even {u : Nat} (h : ¬ u % 2 = 1) : decide (((u % 2 : Nat) : Int) = 1) = false := by simp; omega

set_option maxHeartbeats 1000000 in
theorem of_calls (g k : Nat) (cs : Array Value) (v : Nat) (hv : v < 2 ^ 32) (w : World) (hm : Mat k cs) (hw : w.heap[g]? = some (.cells cs 86 (0, 0))) :
    Calls Try.prog 68 #[.pointer (some ⟨g, 0, none⟩), .int .u32 v] w fun e w' => e = .returned (.int .u32 (Ck.sts k v)) ∧ ∃ q, w' = w.drewN q := by
  have HM := Lib.hid hm
  have HK := Lib.hid hw
  clear hm hw
  go_enter Try.func68, Try.ntmps68
  go_wp2
  go_loopg [1, 5, 6] 32 (fun kx s1 s5 s6 wr => ∃ (i q : Nat), s1 = .int .u32 (v / 2 ^ i : Nat) ∧ s5 = .int .u32 (Ck.sts k (v % 2 ^ i) : Nat) ∧ s6 = .int .i64 i ∧ i ≤ 32 ∧ 32 - i ≤ kx ∧ wr = w.drewN q)
  case atStart => exact ⟨0, 0, by simp, by simp [Nat.mod_one, Ck.sts_zero], rfl, by omega, by omega, rfl⟩
  case round =>
    obtain ⟨i, q, rfl, rfl, rfl, hi, hk, rfl⟩ := hrel
    have hsp := Ck.mod_of_div_zero v i
    have hone := Ck.sts_round_one k v i
    have hzero := Ck.sts_round_zero k v i
    have hhalf := Ck.div_pow_succ v i
    have hlo : v / 2 ^ i < 2 ^ (32 - i) := by
      rw [Nat.div_lt_iff_lt_mul (Nat.two_pow_pos i), ← Nat.pow_add, show 32 - i + i = 32 by omega]; exact hv
    have hle : v / 2 ^ i < 2 ^ 32 := Nat.lt_of_le_of_lt (Nat.div_le_self _ _) hv
    have hsl : Ck.sts k (v % 2 ^ i) < 2 ^ 32 := Ck.sts_lt _ _ (Nat.lt_of_le_of_lt (Nat.mod_le _ _) hv)
    have hpl : i < 32 → Ck.sts k (2 ^ i) < 2 ^ 32 := fun h => Ck.sts_lt _ _ (Nat.pow_lt_pow_right (by omega) h)
    have hi32 : v / 2 ^ i ≠ 0 → i < 32 := fun h => by
      rcases Nat.lt_or_ge i 32 with h1 | h1
      · exact h1
      · obtain rfl : i = 32 := by omega
        rw [show 32 - 32 = 0 from rfl, Nat.pow_zero] at hlo
        omega
    clear hlo
    generalize v / 2 ^ i = u at *
    have hsp2 : u = 0 → Ck.sts k (v % 2 ^ i) = Ck.sts k v := fun h => by rw [hsp h]
    generalize Ck.sts k (v % 2 ^ i) = x at *
    have hu0 : (0 : Int) ≤ (u : Int) := by omega
    have hi0 : (0 : Int) ≤ (i : Int) := by omega
    by_cases hz0 : u = 0
    · subst hz0
      have he := hsp2 rfl
      subst he
      go_wp2
      go_ret
      exact ⟨rfl, q, rfl⟩
    · have hz : decide (((u : Nat) : Int) = 0) = false := by simp [hz0]
      have hi := hi32 hz0
      have hiI : (i : Int) < 32 := by omega
      have hand := and_one hle
      have hc := (blk_cell HK.out i).trans (HM.out.2 i hi)
      have hpl := hpl hi
      generalize Ck.sts k (2 ^ i) = y at *
      have hx := xor_u32 hsl hpl
      by_cases ho : u % 2 = 1
      · have hd := bit_odd ho
        go_wp2
        go_roundg (32 - (i + 1))
        case measure => omega
        case rel => exact ⟨i + 1, q, by rw [hhalf]; congr 1, by first | rfl | rw [hone ho], rfl, by omega, by omega, rfl⟩
      · have hd := bit_even ho
        go_wp2
        go_roundg (32 - (i + 1))
        case measure => omega
        case rel => exact ⟨i + 1, q, by rw [hhalf]; congr 1, by first | rfl | rw [hzero (by omega)], rfl, by omega, by omega, rfl⟩

theorem und86 : Try.prog.underlying 86 = some (.array 32 23) := by kernel_rfl
theorem size86 : (Try.prog.info? 86).map (·.size) = some 32 := by kernel_rfl
theorem load86 {w : World} {g : Nat} {cs : Array Value} (h : w.heap[g]? = some (.cells cs 86 (0, 0))) (hs : cs.size = 32) :
    (Instr.loadAt 86 (.pointer (some ⟨g, 0, none⟩))).run Try.prog w = .ok (.agg cs) w := by
  simp only [Instr.loadAt, Instr.sureAddr, Sem.run_bind, Sem.run_pure, Result.andThen_ok, run_loadVar_row w g 86 86 cs (0, 0) _ h und86 rfl (by rw [hs]; exact size86)]
theorem mat_one {k : Nat} {cs : Array Value} (h : Mat k cs) : cs.all (·.oneCell') = true := by
  rw [Array.all_eq_true]
  intro i hi
  have := h.2 i (by rw [← h.1]; exact hi)
  rw [Array.getElem?_eq_getElem hi] at this
  rw [Option.some.inj this]; rfl
theorem store86 {w : World} {g k : Nat} {old cs : Array Value} (h : w.heap[g]? = some (.cells old 86 (0, 0))) (hs : old.size = 32) (hm : Mat k cs) :
    (Instr.storeAt 86 (.pointer (some ⟨g, 0, none⟩)) (.agg cs)).run Try.prog w = .ok () (w.setRow g cs) := by
  simp only [Instr.storeAt, Instr.sureAddr, Sem.run_bind, Sem.run_pure, Result.andThen_ok, run_storeVar_row w g 86 86 old cs h (by rw [hm.1]; exact size86) (by rw [hs, hm.1]) (mat_one hm)]
theorem setRow_below {B g : Nat} {w W : World} (h : Below B w W) (hg : B ≤ g) (cs : Array Value) : Below B w (W.setRow g cs) :=
  ⟨h.os, h.tape, h.output, by rw [size_setRow]; exact h.size, fun k hk => (setRow_other W g k cs (by omega)).trans (h.block k hk)⟩

set_option maxHeartbeats 1000000 in
set_option maxRecDepth 100000 in
theorem twice_calls (g m : Nat) (cs : Array Value) (w : World) (hm : Mat (8 * 2 ^ m) cs) (hw : w.heap[g]? = some (.cells cs 86 (0, 0))) :
    Calls Try.prog 69 #[.pointer (some ⟨g, 0, none⟩)] w fun e w' => (∃ cs', e = .returned (.agg cs') ∧ Mat (8 * 2 ^ (m + 1)) cs') ∧ Below w.heap.size w w' := by
  have HM := Lib.hid hm
  have HK := Lib.hid hw
  have HG := Lib.hid (blk_lt hw)
  clear hm hw
  go_enter Try.func69, Try.ntmps69
  go_wp2
  generalize hW0 : (w.alloc _).alloc _ = W0
  have hb0 : Below w.heap.size w W0 := by rw [← hW0]; exact ((Below.refl _ w).alloc (Nat.le_refl _) _).alloc (by simp) _
  have HB0 := Lib.hid hb0
  have hk0 : W0.heap[w.heap.size + 1]? = some (.cells (Array.replicate 32 (.int .u32 0)) 86 (0, 0)) := by
    rw [← hW0, show w.heap.size + 1 = (w.alloc (.cells (Array.replicate 32 (.int .u32 0)) 86 (0, 0))).heap.size from by simp]; exact blk_new _ _
  have hr0 : W0.heap[w.heap.size]? = some (.cells (Array.replicate 32 (.int .u32 0)) 86 (0, 0)) := by rw [← hW0]; exact blk_alloc (blk_new _ _) _
  clear hb0 hW0
  generalize hg : w.heap.size = gw at *
  go_loopg [5] 32 (fun kx s5 wr => ∃ (i : Nat) (xs : Array Value) (W : World), W = wr ∧ s5 = .int .i64 i ∧ i ≤ 32 ∧ 32 - i ≤ kx ∧ Below gw w wr ∧ wr.heap[gw]? = some (.cells (Array.replicate 32 (.int .u32 0)) 86 (0, 0)) ∧ wr.heap[gw + 1]? = some (.cells xs 86 (0, 0)) ∧ xs.size = 32 ∧ ∀ j, j < i → xs[j]? = some (.int .u32 (Ck.sts (8 * 2 ^ (m + 1)) (2 ^ j))))
  case atStart => exact ⟨0, _, _, rfl, rfl, by omega, by omega, HB0.out, hr0, hk0, rfl, fun j hj => by omega⟩
  case round =>
    obtain ⟨i, xs, Wx, rfl, rfl, hi, hk, hb, hres, hblk, hsz, hxs⟩ := hrel
    have HB := Lib.hid hb
    have HRS := Lib.hid hres
    have HX := Lib.hid hxs
    have HKX := Lib.hid hblk
    have hkm : Wx.heap[g]? = some (.cells cs 86 (0, 0)) := by rw [← hg] at hb; exact blk_below HK.out hb
    have HKM := Lib.hid hkm
    clear hb hxs hblk hres hkm
    by_cases hlt : i < 32
    · have hz : decide ((i : Int) < 32) = true := by simp; omega
      have h0 : (0 : Int) ≤ (i : Int) := by omega
      have hlt' : (i : Int) < 32 := by omega
      obtain ⟨old, hold⟩ : ∃ old, xs[i]? = some old := ⟨_, Array.getElem?_eq_getElem (by omega)⟩
      have hcell : ∀ q, (Wx.drewN q).cell? ⟨gw + 1, i, none⟩ = some old := fun q => (blk_cell (w := Wx.drewN q) HKX.out i).trans hold
      have hfr : Wx.frozen? ⟨gw + 1, i, none⟩ = false := blk_frozen HKX.out i
      have him : Wx.cell? ⟨g, i, none⟩ = some (.int .u32 (Ck.sts (8 * 2 ^ m) (2 ^ i))) := (blk_cell HKM.out i).trans (HM.out.2 i hlt)
      have hpl : Ck.sts (8 * 2 ^ m) (2 ^ i) < 2 ^ 32 := Ck.sts_lt _ _ (Nat.pow_lt_pow_right (by omega) hlt)
      have htw := Ck.twice_img m (2 ^ i)
      generalize Ck.sts (8 * 2 ^ m) (2 ^ i) = y at *
      have hy0 : (0 : Int) ≤ (y : Int) := by omega
      go_wp2_with (go_at_call 68; (with_reducible refine (of_calls g (8 * 2 ^ m) cs y hpl _ HM.out HKM.out).mono ?_); rintro e w' ⟨rfl, nd, rfl⟩)
      go_roundg (32 - (i + 1))
      case measure => omega
      case rel =>
        refine ⟨i + 1, _, _, rfl, rfl, by omega, by omega, (below_drewN HB.out nd).setCell (Nat.le_succ _) _, blk_far (blk_drewN HRS.out nd) (by simp) _, blk_set (blk_drewN HKX.out nd) i _, by simp [hsz], fun j hj => ?_⟩
        rw [Array.getElem?_setIfInBounds]
        by_cases hij : i = j
        · subst hij; rw [if_pos rfl, if_pos (by omega)]
        · rw [if_neg hij]; exact HX.out j (by omega)
    · have hz : decide ((i : Int) < 32) = false := by simp; omega
      obtain rfl : i = 32 := by omega
      have hm2 : Mat (8 * 2 ^ (m + 1)) xs := ⟨hsz, HX.out⟩
      have HM2 := Lib.hid hm2
      clear hm2
      have hsx : (Try.prog.info? 86).map (·.size) = some xs.size := by rw [hsz]; exact size86
      have hso : (Array.replicate 32 (Value.int .u32 0)).size = xs.size := by rw [hsz]; rfl
      have hone := Lib.hid (mat_one HM2.out)
      go_wp2_with (first
        | ((with_reducible refine gate_dst (N := 18) rfl ?_); refine wpList_load_row rfl 86 (.tmp 3) rfl (gw + 1) rfl 86 xs (0, 0) _ HKX.out und86 rfl hsx ?_)
        | ((with_reducible refine gate_store (t := 86) (p := 2) rfl ?_); refine wpList_store_row rfl 86 (.tmp 2) (.tmp 18) rfl gw xs rfl rfl 86 _ HRS.out hsx hso hone.out ?_))
      have hk2 : (Wx.setRow gw xs).heap[gw]? = some (.cells xs 86 (0, 0)) := setRow_heap _ _ _ _ _ _ HRS.out
      refine bodyPost_ret (results_cell_row rfl _ _ gw 86 xs (0, 0) _ rfl hk2 und86 rfl (by rw [hsz]; exact size86)) rfl ?_
      exact ⟨⟨_, rfl, HM2.out⟩, by rw [hg]; exact setRow_below HB.out (Nat.le_refl _) _⟩

theorem two_pow_i {i p : Nat} (hp : p = 2 ^ i) (hpl : 2 ^ i < 2 ^ 32) : (2 : Int) ^ i % 4294967296 = (p : Int) := by
  have e : (2 : Int) ^ i = ((2 ^ i : Nat) : Int) := by rw [Int.natCast_pow]; rfl
  rw [e, ← hp]
  rw [← hp] at hpl
  omega

theorem combine_neg (x y : Int) (n : Int) (hn : n < 0) (w : World) :
    Calls Try.prog 34 #[.int .u32 x, .int .u32 y, .int .i64 n] w fun e w' => e = .returned (.int .u32 0) ∧ Below w.heap.size w w' := by
  go_enter Try.func34, Try.ntmps34
  have hz : decide (n < 0) = true := by simpa using hn
  go_wp2
  go_ret
  exact ⟨rfl, Below.refl _ _⟩

set_option maxHeartbeats 1000000 in
set_option maxRecDepth 100000 in
theorem combine_calls (x y n : Nat) (hx : x < 2 ^ 32) (hy : y < 2 ^ 32) (hn : n < 2 ^ 62) (w : World) :
    Calls Try.prog 34 #[.int .u32 x, .int .u32 y, .int .i64 n] w fun e w' => e = .returned (.int .u32 (Ck.sts (8 * n) x ^^^ y : Nat)) ∧ Below w.heap.size w w' := by
  go_enter Try.func34, Try.ntmps34
  have hz : decide ((n : Int) < 0) = false := by simp
  go_wp2
  generalize hW0 : w.alloc _ = W0
  have hb0 : Below w.heap.size w W0 := by rw [← hW0]; exact (Below.refl _ w).alloc (Nat.le_refl _) _
  have HB0 := Lib.hid hb0
  have hk0 : W0.heap[w.heap.size]? = some (.cells (Array.replicate 32 (.int .u32 0)) 86 (0, 0)) := by rw [← hW0]; exact blk_new _ _
  clear hb0 hW0
  generalize hg : w.heap.size = g at *
  go_loopg [11] 32 (fun kx s11 wr => ∃ (i : Nat) (xs : Array Value) (W : World), W = wr ∧ s11 = .int .i64 i ∧ i ≤ 32 ∧ 32 - i ≤ kx ∧ Below g w wr ∧ wr.heap[g]? = some (.cells xs 86 (0, 0)) ∧ xs.size = 32 ∧ ∀ j, j < i → xs[j]? = some (.int .u32 (Ck.sts 8 (2 ^ j))))
  case atStart => exact ⟨0, _, _, rfl, rfl, by omega, by omega, HB0.out, hk0, rfl, fun j hj => by omega⟩
  case round =>
    obtain ⟨i, xs, Wx, rfl, rfl, hi, hk, hb, hblk, hsz, hxs⟩ := hrel
    have HB := Lib.hid hb
    have HX := Lib.hid hxs
    have HKX := Lib.hid hblk
    clear hb hxs hblk
    by_cases hlt : i < 32
    · have hz : decide ((i : Int) < 32) = true := by simp; omega
      have h0 : (0 : Int) ≤ (i : Int) := by omega
      have hlt' : (i : Int) < 32 := by omega
      obtain ⟨old, hold⟩ : ∃ old, xs[i]? = some old := ⟨_, Array.getElem?_eq_getElem (by omega)⟩
      have hcell : ∀ q, (Wx.drewN q).cell? ⟨g, i, none⟩ = some old := fun q => (blk_cell (w := Wx.drewN q) HKX.out i).trans hold
      have hfr : Wx.frozen? ⟨g, i, none⟩ = false := blk_frozen HKX.out i
      have hpl : 2 ^ i < 2 ^ 32 := Nat.pow_lt_pow_right (by omega) hlt
      obtain ⟨p, hp⟩ : ∃ p : Nat, p = 2 ^ i := ⟨_, rfl⟩
      have hpi : (2 : Int) ^ i % 4294967296 = (p : Int) := two_pow_i hp hpl
      rw [← hp] at hpl
      have HP := Lib.hid hp
      clear hp
      go_wp2_with (go_at_call 65; (with_reducible refine (step8 p hpl _).mono ?_); rintro e w' ⟨rfl, nd, rfl⟩)
      go_roundg (32 - (i + 1))
      case measure => omega
      case rel =>
        refine ⟨i + 1, _, _, rfl, rfl, by omega, by omega, (below_drewN HB.out nd).setCell (Nat.le_refl _) _, blk_set (blk_drewN HKX.out nd) i _, by simp [hsz], fun j hj => ?_⟩
        rw [Array.getElem?_setIfInBounds]
        by_cases hij : i = j
        · subst hij; rw [if_pos rfl, if_pos (by omega), HP.out]
        · rw [if_neg hij]; exact HX.out j (by omega)
    · have hz : decide ((i : Int) < 32) = false := by simp; omega
      obtain rfl : i = 32 := by omega
      go_wp2
      have hm1 : Mat (8 * 2 ^ 0) xs := ⟨hsz, HX.out⟩
      have HM1 := Lib.hid hm1
      clear hm1
      go_loopg [0, 2] n (fun kx s0 s2 wr => ∃ (j : Nat) (xs : Array Value) (W : World), W = wr ∧ s0 = .int .u32 (Ck.sts (8 * (n % 2 ^ j)) x : Nat) ∧ s2 = .int .i64 (n / 2 ^ j : Nat) ∧ n / 2 ^ j ≤ kx ∧ Below g w wr ∧ wr.heap[g]? = some (.cells xs 86 (0, 0)) ∧ Mat (8 * 2 ^ j) xs)
      case atStart => exact ⟨0, _, _, rfl, by simp [Nat.mod_one, Ck.sts], by simp, by simp, HB.out, HKX.out, HM1.out⟩
      case round =>
        obtain ⟨j, xs, Wx, rfl, rfl, rfl, hk, hb, hblk, hmj⟩ := hrel
        have HB := Lib.hid hb
        have HKX := Lib.hid hblk
        have HM := Lib.hid hmj
        clear hb hblk hmj
        have hsp := Ck.mod_of_div_zero n j
        have hone := Ck.comb_one n j x
        have hzero := Ck.comb_zero n j x
        have hhalf := Ck.div_pow_succ n j
        have hsl : Ck.sts (8 * (n % 2 ^ j)) x < 2 ^ 32 := Ck.sts_lt _ _ hx
        have hle : n / 2 ^ j < 2 ^ 62 := Nat.lt_of_le_of_lt (Nat.div_le_self _ _) hn
        have hsp2 : n / 2 ^ j = 0 → Ck.sts (8 * (n % 2 ^ j)) x = Ck.sts (8 * n) x := fun h => by rw [hsp h]
        generalize n / 2 ^ j = u at *
        generalize Ck.sts (8 * (n % 2 ^ j)) x = v at *
        have hu0 : (0 : Int) ≤ (u : Int) := by omega
        by_cases hz0 : u = 0
        · subst hz0
          have he := hsp2 rfl
          subst he
          have hxor := xor_u32 hsl hy
          clear hone hzero hhalf hsp hsp2
          go_wp2
          go_ret
          exact ⟨rfl, by first | exact HB.out | (rw [hg]; exact HB.out)⟩
        · have hz : decide ((0 : Int) < (u : Int)) = true := by simp; omega
          have hz1 := Lib.hid hone
          have hz2 := Lib.hid hzero
          have hz3 := Lib.hid hhalf
          clear hone hzero hhalf hsp hsp2
          have hand := Go.Proofs.and_one u (by omega)
          by_cases ho : u % 2 = 1
          · have hd := bit_odd ho
            go_wp2_with (first
              | (go_at_call 68; (with_reducible refine (of_calls g (8 * 2 ^ j) xs v hsl _ HM.out HKX.out).mono ?_); rintro e w' ⟨rfl, nd, rfl⟩)
              | (go_at_call 69; (with_reducible refine (twice_calls g j xs _ HM.out (blk_drewN HKX.out _)).mono ?_); rintro e w' ⟨⟨cs', rfl, hm2⟩, hb2⟩; have HM2 := Lib.hid hm2; have HB2 := Lib.hid hb2; clear hm2 hb2; have HK2 := Lib.hid (blk_below (blk_drewN HKX.out _) HB2.out); have hsx : (Try.prog.info? 86).map (·.size) = some cs'.size := (by rw [HM2.out.1]; exact size86); have hso : xs.size = cs'.size := (by rw [HM2.out.1, HM.out.1]); have hone := Lib.hid (mat_one HM2.out))
              | ((with_reducible refine gate_store (t := 86) (p := 7) rfl ?_); refine wpList_store_row rfl 86 (.tmp 7) (.tmp 29) rfl g cs' rfl rfl 86 _ HK2.out hsx hso hone.out ?_))
            go_roundg (u / 2)
            case measure => omega
            case rel =>
              refine ⟨j + 1, cs', _, rfl, by rw [← hz1.out ho], by rw [hz3.out]; congr 1, by rw [hz3.out]; omega, setRow_below ((below_drewN HB.out nd).trans (HB2.out.mono ?_)) (Nat.le_refl _) _, setRow_heap _ _ _ _ _ _ HK2.out, HM2.out⟩
              exact Nat.le_of_lt (blk_lt (blk_drewN HKX.out nd))
          · have hd := bit_even ho
            go_wp2_with (first
              | (go_at_call 69; (with_reducible refine (twice_calls g j xs _ HM.out HKX.out).mono ?_); rintro e w' ⟨⟨cs', rfl, hm2⟩, hb2⟩; have HM2 := Lib.hid hm2; have HB2 := Lib.hid hb2; clear hm2 hb2; have HK2 := Lib.hid (blk_below HKX.out HB2.out); have hsx : (Try.prog.info? 86).map (·.size) = some cs'.size := (by rw [HM2.out.1]; exact size86); have hso : xs.size = cs'.size := (by rw [HM2.out.1, HM.out.1]); have hone := Lib.hid (mat_one HM2.out))
              | ((with_reducible refine gate_store (t := 86) (p := 7) rfl ?_); refine wpList_store_row rfl 86 (.tmp 7) (.tmp 29) rfl g cs' rfl rfl 86 _ HK2.out hsx hso hone.out ?_))
            go_roundg (u / 2)
            case measure => omega
            case rel =>
              refine ⟨j + 1, cs', _, rfl, by rw [← hz2.out (by omega)], by rw [hz3.out]; congr 1, by rw [hz3.out]; omega, setRow_below (HB.out.trans (HB2.out.mono ?_)) (Nat.le_refl _) _, setRow_heap _ _ _ _ _ _ HK2.out, HM2.out⟩
              exact Nat.le_of_lt (blk_lt HKX.out)

end Go.Proofs.Ytmeojlamadcedaa

namespace Go.Proofs.Ytmeojlamadcedaa
open Go.RowKit Go.Sort Go.Proofs.YtmeojlamadcedaaW.PrintWords

def cells4 (s : Nat) : Array Value := #[.int .u8 (s % 256 : Nat), .int .u8 (s / 256 % 256 : Nat), .int .u8 (s / 65536 % 256 : Nat), .int .u8 (s / 16777216 : Nat)]

set_option maxHeartbeats 1000000 in
theorem bytesOf_calls (s : Nat) (hs : s < 2 ^ 32) (w : World) :
    Calls Try.prog 67 #[.int .u32 s] w fun e w' => e = .returned (.agg (cells4 s)) ∧ Below w.heap.size w w' := by
  have h0 : (0 : Int) ≤ (s : Int) := by omega
  go_enter Try.func67, Try.ntmps67
  go_wp2
  refine bodyPost_ret (results_cell_row rfl _ _ w.heap.size 83 (cells4 s) (0, 0) _ rfl (blk_new _ _) (show Try.prog.underlying 83 = some (.array 4 5) by kernel_rfl) rfl (show (Try.prog.info? 83).map (·.size) = some 4 by kernel_rfl)) rfl ?_
  exact ⟨rfl, (Below.refl _ w).alloc (Nat.le_refl _) _⟩

theorem list4 (s : Nat) (hs : s < 2 ^ 32) : (cells4 s).toList = (Ck.le4 s).map fun b => Value.int .u8 (b.toNat : Nat) := by
  have e : (UInt8.ofNat (s / 16777216)).toNat = s / 16777216 := by rw [UInt8.toNat_ofNat']; omega
  simp only [cells4, Ck.le4, List.map_cons, List.map_nil, UInt8.toNat_ofNat', e]

/-- A row of bytes as values. -/
def vals (l : List UInt8) : List Value := l.map fun b => Value.int .u8 (b.toNat : Nat)
theorem vals_at {l : List UInt8} {w : World} {ad : Addr} (hc : ∀ i, i < l.length → w.cell? (ad.add i) = some (.int .u8 ((l.getD i 0).toNat : Nat))) :
    ∀ j u, (vals l)[j]? = some u → w.cell? (ad.add j) = some u := fun j u hu => by
  unfold vals at hu
  rw [List.getElem?_map] at hu
  rcases Nat.lt_or_ge j l.length with hj | hj
  · rw [List.getElem?_eq_getElem hj] at hu
    rw [hc j hj, List.getD_eq_getElem?_getD, List.getElem?_eq_getElem hj]
    exact hu
  · rw [List.getElem?_eq_none hj] at hu; cases hu
theorem vals_one (l : List UInt8) : ∀ u ∈ vals l, u.oneCell' = true := by
  intro u hu
  obtain ⟨b, _, rfl⟩ := List.mem_map.mp hu
  rfl

theorem info5 : ∃ i : TypeInfo, Try.prog.info? 5 = some i ∧ i.zero = some (.int .u8 0) ∧ i.size = 1 ∧ i.bytes = 1 := by
  have h : (Try.prog.info? 5).map (fun i => (i.zero, i.size, i.bytes)) = some (some (.int .u8 0), 1, 1) := by kernel_rfl
  obtain ⟨i, hi, he⟩ := Option.map_eq_some_iff.mp h
  simp only [Prod.mk.injEq] at he
  exact ⟨i, hi, he.1, he.2.1, he.2.2⟩

theorem sum_any (A : Option Addr) (cap : Nat) (l : List UInt8) (w : World) (hn : l.length < 1152921504606846976) (hnone : A = none → l = [])
    (hc : ∀ ad, A = some ad → ∀ i, i < l.length → w.cell? (ad.add i) = some (.int .u8 ((l.getD i 0).toNat : Nat))) :
    Calls Try.prog 27 #[.slice A l.length cap] w fun e w' => e = .returned (.int .u32 (Ck.sum l)) ∧ Below w.heap.size w w' := by
  cases A with
  | some ad => exact sum_some ad cap l w hn (hc ad rfl)
  | none => obtain rfl := hnone rfl; exact sum_none cap w

set_option maxHeartbeats 2000000 in
set_option maxRecDepth 100000 in
theorem seal_any (A : Option Addr) (cap : Nat) (l : List UInt8) (w : World) (hn : l.length < 1152921504606846976) (hb : l.length < 140737488351232)
    (hnone : A = none → l = []) (hc : ∀ ad, A = some ad → ∀ i, i < l.length → w.cell? (ad.add i) = some (.int .u8 ((l.getD i 0).toNat : Nat))) (hcap : l.length ≤ cap) :
    Calls Try.prog 30 #[.slice A l.length cap] w fun e w' => (∃ v, e = .returned v ∧ w'.ownsRow w.heap.size 5 1 v (Ck.shutIt l).length (vals (Ck.shutIt l))) ∧ Below w.heap.size w w' := by
  have HC := Lib.hid hc
  have HN := Lib.hid hnone
  clear hc hnone
  have hone : Hid ((cells4 (Ck.sum l)).all (·.oneCell') = true) := Lib.hid (by first | rfl | simp [cells4, Value.oneCell'])
  have hsz : Hid ((Try.prog.info? 83).map (·.size) = some (cells4 (Ck.sum l)).size) := Lib.hid (show (Try.prog.info? 83).map (·.size) = some 4 by kernel_rfl)
  have hl4 := Lib.hid (list4 (Ck.sum l) (Ck.sum_lt l))
  have hsh : Hid (Ck.shutIt l = l ++ Ck.le4 (Ck.sum l)) := Lib.hid (by first | rfl | simp [cells4, Value.oneCell'])
  have hsl := Lib.hid (Ck.sum_lt l)
  generalize hsum : Ck.sum l = sm at *
  go_enter Try.func30, Try.ntmps30
  go_wp2_with (first
    | (go_at_call 27; (with_reducible refine (sum_any A cap l _ hn HN.out HC.out).mono ?_); rw [hsum]; rintro e w1 ⟨rfl, hb1⟩; have HB1 := Lib.hid hb1; clear hb1)
    | (go_at_call 67; (with_reducible refine (bytesOf_calls sm hsl.out _).mono ?_); rintro e w2 ⟨rfl, hb2⟩; have HB2 := Lib.hid hb2; clear hb2)
    | ((with_reducible refine gate_store (t := 83) (p := 3) rfl ?_); refine wpList_store_row rfl 83 (.tmp 3) (.tmp 6) rfl w2.heap.size (cells4 sm) rfl rfl 83 _ (blk_new _ _) hsz.out rfl hone.out ?_
       ; generalize hW3 : World.setRow _ _ _ = W3
       ; have hk3 : W3.heap[w2.heap.size]? = some (.cells (cells4 sm) 83 (0, 0)) := (by rw [← hW3]; exact setRow_heap _ _ _ _ _ _ (blk_new _ _))
       ; have hb3 : Below w.heap.size w W3 := (by rw [← hW3]; exact setRow_below ((HB1.out.trans (HB2.out.mono HB1.out.size)).alloc (Nat.le_trans HB1.out.size HB2.out.size) _) (Nat.le_trans HB1.out.size HB2.out.size) _)
       ; clear hW3; have HK3 := Lib.hid hk3; have HB3 := Lib.hid hb3; clear hk3 hb3; generalize hg : w2.heap.size = g at *))
  obtain ⟨i, hi, hi1, hi2, hi3⟩ := info5
  have hold : ∀ b, A = some b → ∀ j u, (vals l)[j]? = some u → (W3.drew).cell? (b.add j) = some u := fun b e j u hu =>
    (cell_later HB3.out (vals_at (HC.out b e) j u hu) : W3.cell? _ = _)
  have hnew : ∀ j u, (vals (Ck.le4 sm))[j]? = some u → (W3.drew).cell? ((⟨g, 0, none⟩ : Addr).add j) = some u := fun j u hu => by
    rw [Addr.add_mid, Nat.zero_add]
    have h1 : W3.cell? ⟨g, j, none⟩ = (cells4 sm)[j]? := blk_cell HK3.out j
    refine h1.trans ?_
    rw [← Array.getElem?_toList, hl4.out]
    exact hu
  have HOLD := Lib.hid hold
  have HNEW := Lib.hid hnew
  clear hold hnew
  have hv1 : Hid ((vals l).length = l.length * 1) := Lib.hid (by simp [vals])
  have hv2 : Hid ((vals (Ck.le4 sm)).length = 4 * 1) := Lib.hid (by simp [vals, Ck.le4_length])
  have HN0 : Hid (A = none → l.length = 0 ∧ l.length = 0) := Lib.hid (fun h => by rw [HN.out h]; exact ⟨rfl, rfl⟩)
  simp only [Act.put]
  go_still_tail 7, (by kernel_rfl)
  change wpList _ _ _ _ _ W3.drew
  refine wpList_append_grows W3.drew rfl (.tmp 12) (.tmp 13) 22 rfl 5 i (.int .u8 0) 1 1 (show Try.prog.underlying 22 = some (.slice 5) by kernel_rfl) hi hi1 hi2 hi3 rfl (by decide) A l.length l.length (vals l) rfl HN0.out hv1.out HOLD.out ⟨g, 0, none⟩ 4 4 (vals (Ck.le4 sm)) rfl hv2.out HNEW.out (vals_one _) (by omega) (by simp only [maxLen]; omega) (by omega) ?_
  intro v1 w4 hown hgr
  have HOWN := Lib.hid (World.ownsRow.mono hown (show w.heap.size ≤ W3.drew.heap.size from HB3.out.size))
  have HGR := Lib.hid (Below.grown (below_drewN HB3.out 1) hgr HB3.out.size (fun k hk => by cases hk))
  clear hown hgr
  go_wp2
  go_ret
  refine ⟨⟨v1, rfl, ?_⟩, HGR.out⟩
  have h := HOWN.out
  rw [hsh.out, List.length_append, Ck.le4_length, show vals (l ++ Ck.le4 sm) = vals l ++ vals (Ck.le4 sm) from List.map_append]
  exact h

end Go.Proofs.Ytmeojlamadcedaa

namespace Go.Proofs.Ytmeojlamadcedaa
open Go.RowKit Go.Sort Go.Proofs.YtmeojlamadcedaaW.PrintWords

theorem und5 : Try.prog.underlying 5 = some (.int .u8) := by kernel_rfl
theorem eq4 (a b c d a' b' c' d' : Int) (w : World) : (Op.equalIn 10000 83 (.agg #[.int .u8 a, .int .u8 b, .int .u8 c, .int .u8 d]) (.agg #[.int .u8 a', .int .u8 b', .int .u8 c', .int .u8 d'])).run Try.prog w = .ok (a == a' && (b == b' && (c == c' && d == d'))) w := by
  obtain ⟨i, hi, _, h2, _⟩ := info5
  have hc : Try.prog.cellsOf 5 = 1 := by kernel_rfl
  have hp : ∀ (xs : Array Value) (o : Nat) (v : Value), xs[o]? = some v → (part 5 xs o).run Try.prog w = .ok v w := fun xs o v h => by
    simp [part, isAgg, run_underlying und5, h]
  rw [show 10000 = 9999 + 1 from rfl, run_equalIn_array w 9999 _ _ (show Try.prog.underlying 83 = some (.array 4 5) by kernel_rfl) hi, hc]
  have hr : List.range 4 = [0, 1, 2, 3] := by decide
  have he : ∀ x y : Int, (Op.equalIn 9999 5 (.int .u8 x) (.int .u8 y)).run Try.prog w = .ok (x == y) w := fun x y => run_equalIn_int w 9998 5 .u8 .u8 x y und5
  rw [hr]
  simp only [Op.eqItems, Sem.run_bind, Nat.mul_one]
  have p0 := hp #[.int .u8 a, .int .u8 b, .int .u8 c, .int .u8 d] 0 (.int .u8 a) rfl
  have q0 := hp #[.int .u8 a', .int .u8 b', .int .u8 c', .int .u8 d'] 0 (.int .u8 a') rfl
  have p1 := hp #[.int .u8 a, .int .u8 b, .int .u8 c, .int .u8 d] 1 (.int .u8 b) rfl
  have q1 := hp #[.int .u8 a', .int .u8 b', .int .u8 c', .int .u8 d'] 1 (.int .u8 b') rfl
  have p2 := hp #[.int .u8 a, .int .u8 b, .int .u8 c, .int .u8 d] 2 (.int .u8 c) rfl
  have q2 := hp #[.int .u8 a', .int .u8 b', .int .u8 c', .int .u8 d'] 2 (.int .u8 c') rfl
  have p3 := hp #[.int .u8 a, .int .u8 b, .int .u8 c, .int .u8 d] 3 (.int .u8 d) rfl
  have q3 := hp #[.int .u8 a', .int .u8 b', .int .u8 c', .int .u8 d'] 3 (.int .u8 d') rfl
  simp only [p0, q0, he, Result.andThen_ok]
  cases a == a'
  · simp
  simp only [Bool.not_true, Bool.false_eq_true, if_false, Sem.run_bind, p1, q1, he, Result.andThen_ok]
  cases b == b'
  · simp
  simp only [Bool.not_true, Bool.false_eq_true, if_false, Sem.run_bind, p2, q2, he, Result.andThen_ok]
  cases c == c'
  · simp
  simp only [Bool.not_true, Bool.false_eq_true, if_false, Sem.run_bind, p3, q3, he, Result.andThen_ok]
  cases d == d' <;> simp
theorem le4_eq (s : Nat) (hs : s < 2 ^ 32) (m : List UInt8) (hm : m.length = 4) :
    ((((s % 256 : Nat) : Int) == ((m.getD 0 0).toNat : Nat)) && ((((s / 256 % 256 : Nat) : Int) == ((m.getD 1 0).toNat : Nat)) && ((((s / 65536 % 256 : Nat) : Int) == ((m.getD 2 0).toNat : Nat)) && (((s / 16777216 : Nat) : Int) == ((m.getD 3 0).toNat : Nat))))) = decide (Ck.le4 s = m) := by
  obtain ⟨a, b, c, d, rfl⟩ : ∃ a b c d, m = [a, b, c, d] := by
    match m, hm with
    | [a, b, c, d], _ => exact ⟨a, b, c, d, rfl⟩
  have key : ∀ (x : Nat) (y : UInt8), UInt8.ofNat x = y ↔ x % 256 = y.toNat := fun x y => by
    rw [← UInt8.toNat_inj, UInt8.toNat_ofNat']
  have e3 : s / 16777216 = s / 16777216 % 256 := by omega
  rw [e3]
  simp only [Ck.le4, List.getD_cons_zero, List.getD_cons_succ, List.cons.injEq, and_true, key]
  rw [Bool.eq_iff_iff]
  simp only [Bool.and_eq_true, beq_iff_eq, decide_eq_true_eq, Int.natCast_inj]

theorem unseal_short (A : Option Addr) (cap : Nat) (l : List UInt8) (w : World) (hl : l.length < 4) :
    Calls Try.prog 31 #[.slice A l.length cap] w fun e w' => e = .returned (.tuple #[.slice none 0 0, .int .i64 10]) ∧ Below w.heap.size w w' := by
  have hz : decide ((l.length : Int) < 4) = true := by simp; omega
  go_enter Try.func31, Try.ntmps31
  go_wp2
  go_ret2
  exact ⟨rfl, Below.refl _ _⟩

/-- What Unseal leaves behind. -/
def UnPost (w : World) (sm n : Nat) (l : List UInt8) (e : Ending) (w' : World) : Prop :=
  (if Ck.le4 sm = l.drop n then ∃ v, e = .returned (.tuple #[v, .int .i64 0]) ∧ w'.ownsRow w.heap.size 5 1 v n (vals (l.take n)) else e = .returned (.tuple #[.slice none 0 0, .int .i64 9])) ∧ Below w.heap.size w w'
theorem UnPost.bad {w : World} {sm n : Nat} {l : List UInt8} {w' : World} (h : decide (Ck.le4 sm = l.drop n) = false) (hb : Below w.heap.size w w') : UnPost w sm n l (.returned (.tuple #[.slice none 0 0, .int .i64 9])) w' :=
  ⟨by rw [if_neg (of_decide_eq_false h)], hb⟩
theorem UnPost.good {w : World} {sm n : Nat} {l : List UInt8} {w' : World} {v : Value} (h : decide (Ck.le4 sm = l.drop n) = true) (ho : w'.ownsRow w.heap.size 5 1 v n (vals (l.take n))) (hb : Below w.heap.size w w') : UnPost w sm n l (.returned (.tuple #[v, .int .i64 0])) w' :=
  ⟨by rw [if_pos (of_decide_eq_true h)]; exact ⟨v, rfl, ho⟩, hb⟩

set_option maxHeartbeats 2000000 in
set_option maxRecDepth 100000 in
theorem unseal_long (ad : Addr) (cap n : Nat) (l : List UInt8) (w : World) (hn : l.length < 1152921504606846976) (hb : l.length < 140737488351232) (hln : l.length = n + 4)
    (hc : ∀ i, i < l.length → w.cell? (ad.add i) = some (.int .u8 ((l.getD i 0).toNat : Nat))) (hcap : l.length ≤ cap) :
    Calls Try.prog 31 #[.slice (some ad) l.length cap] w fun e w' => UnPost w (Ck.sum (l.take n)) n l e w' := by
  have HC := Lib.hid hc
  clear hc
  have hz : decide ((l.length : Int) < 4) = false := by simp; omega
  have hlm : (l.length : Int) - 4 = (n : Int) := by omega
  have hcn : ¬ cap = n := by omega
  have h0n : (0 : Int) ≤ (n : Int) := by omega
  have hnl : (n : Int) ≤ (l.length : Int) := by omega
  have hnc : (n : Int) ≤ (cap : Int) := by omega
  have hlc : (l.length : Int) ≤ (cap : Int) := by omega
  have hd4 : l.length - n = 4 := by omega
  obtain ⟨q, hq⟩ : ∃ q, ad.add n = q := ⟨_, rfl⟩
  have hqj : ∀ j, j < 4 → w.cell? (q.add j) = some (.int .u8 ((l.getD (n + j) 0).toNat : Nat)) := fun j hj => by
    rw [← hq, add_add]; exact HC.out (n + j) (by omega)
  have c0 : w.cell? q = some (.int .u8 ((l.getD n 0).toNat : Nat)) := by have := hqj 0 (by omega); rwa [Addr.add_zero', Nat.add_zero] at this
  have c1 : w.cell? ⟨q.block, q.off + 1, none⟩ = some (.int .u8 ((l.getD (n + 1) 0).toNat : Nat)) := by have := hqj 1 (by omega); rwa [Addr.add_succ'] at this
  have c2 : w.cell? ⟨q.block, q.off + 2, none⟩ = some (.int .u8 ((l.getD (n + 2) 0).toNat : Nat)) := by have := hqj 2 (by omega); rwa [Addr.add_succ'] at this
  have c3 : w.cell? ⟨q.block, q.off + 3, none⟩ = some (.int .u8 ((l.getD (n + 3) 0).toNat : Nat)) := by have := hqj 3 (by omega); rwa [Addr.add_succ'] at this
  clear hqj
  obtain ⟨x1, hx1⟩ : ∃ x, (l.getD (n + 1) 0).toNat = x := ⟨_, rfl⟩
  obtain ⟨x2, hx2⟩ : ∃ x, (l.getD (n + 2) 0).toNat = x := ⟨_, rfl⟩
  obtain ⟨x3, hx3⟩ : ∃ x, (l.getD (n + 3) 0).toNat = x := ⟨_, rfl⟩
  obtain ⟨x0, hx0⟩ : ∃ x, (l.getD n 0).toNat = x := ⟨_, rfl⟩
  rw [hx0] at c0
  rw [hx1] at c1
  rw [hx2] at c2
  rw [hx3] at c3
  have HX0 := Lib.hid hx0
  have HX1 := Lib.hid hx1
  have HX2 := Lib.hid hx2
  have HX3 := Lib.hid hx3
  clear hx0 hx1 hx2 hx3
  have HSL := Lib.hid (Ck.sum_lt (l.take n))
  have HT : Hid (∀ W : World, Below w.heap.size w W → Calls Try.prog 27 #[.slice (some ad) n cap] W fun e w' => e = .returned (.int .u32 (Ck.sum (l.take n))) ∧ Below W.heap.size W w') := Lib.hid (fun W hW => by
    have h := sum_some ad cap (l.take n) W (by rw [List.length_take]; omega) (fun i hi => by
      rw [List.length_take] at hi
      rw [List.getD_eq_getElem?_getD, List.getElem?_take_of_lt (by omega), ← List.getD_eq_getElem?_getD]
      exact cell_later hW (HC.out i (by omega)))
    rwa [List.length_take, Nat.min_eq_left (by omega)] at h)
  have hat : ∀ W, (Instr.arrayAt 83 (.slice (some q) 4 (cap - n))).run Try.prog W = .ok (.pointer (some q)) W := fun W => run_arrayAt W 83 _ 4 _ 4 (cap - n) (show Try.prog.underlying 83 = some (.array 4 5) by kernel_rfl) (Nat.le_refl _)
  have HSL2 := Lib.hid (list4 (Ck.sum (l.take n)) HSL.out)
  generalize Ck.sum (l.take n) = sm at *
  have heq : ∀ W, (Op.equalIn 10000 83 (.agg (cells4 sm)) (.agg #[.int .u8 x0, .int .u8 x1, .int .u8 x2, .int .u8 x3])).run Try.prog W = .ok (decide (Ck.le4 sm = l.drop n)) W := fun W => by
    rw [cells4, eq4, ← le4_eq sm HSL.out (l.drop n) (by rw [List.length_drop]; omega), ← HX0.out, ← HX1.out, ← HX2.out, ← HX3.out]
    simp only [List.getD_eq_getElem?_getD, List.getElem?_drop, Nat.add_zero]
  obtain ⟨good, hgood⟩ : ∃ good, decide (Ck.le4 sm = l.drop n) = good := ⟨_, rfl⟩
  have HG := Lib.hid hgood
  rw [hgood] at heq
  clear hgood
  go_enter Try.func31, Try.ntmps31
  go_wp2
  go_region_with (first
    | (go_at_call 27; (with_reducible refine (HT.out _ (Below.refl _ w).drew).mono ?_); rintro e w1 ⟨rfl, hb1⟩; have HB1 := Lib.hid hb1; have c0 := cell_later hb1 (w := w.drew) c0; have c1 := cell_later hb1 (w := w.drew) c1; have c2 := cell_later hb1 (w := w.drew) c2; have c3 := cell_later hb1 (w := w.drew) c3; clear hb1)
    | (go_at_call 67; (with_reducible refine (bytesOf_calls sm HSL.out _).mono ?_); rintro e w2 ⟨rfl, hb2⟩; have HB2 := Lib.hid hb2;  have c0 := cell_later hb2 c0; have c1 := cell_later hb2 c1; have c2 := cell_later hb2 c2; have c3 := cell_later hb2 c3; clear hb2))
  all_goals
    have HB3 : Hid (Below w.heap.size w w2) := Lib.hid (((Below.refl _ w).drew.trans HB1.out).trans (HB2.out.mono HB1.out.size))
    have hv : Hid ((vals (l.take n)).length = n * 1) := Lib.hid (by rw [vals, List.length_map, List.length_take]; omega)
    have htl : Hid ((l.take n).length = n) := Lib.hid (by rw [List.length_take]; omega)
    have hvc : Hid (∀ j u, (vals (l.take n))[j]? = some u → (w2.alloc (.cells #[] 5)).cell? (ad.add j) = some u) := Lib.hid (vals_at (fun i hi => by
      rw [htl.out] at hi
      rw [List.getD_eq_getElem?_getD, List.getElem?_take_of_lt hi, ← List.getD_eq_getElem?_getD]
      exact cell_later (HB3.out.alloc HB3.out.size _) (HC.out i (by omega))))
    clear HB1 HB2 HT HSL2 HX0 HX1 HX2 HX3 hat heq
    cases good
    · go_wp2
      go_ret2
      exact UnPost.bad HG.out HB3.out
    · obtain ⟨i, hi, hi1, hi2, hi3⟩ := info5
      have hb0 : Hid (n * 1 ≤ 140737488355328 ∧ n ≤ maxLen) := Lib.hid (by simp only [maxLen]; omega)
      have hown0 : Hid ((w2.alloc (.cells #[] 5)).ownsRow w.heap.size 5 1 (.slice (some ⟨w2.heap.size, 0, none⟩) 0 0) 0 []) := Lib.hid (World.ownsRow_lit w2 #[] 0 HB3.out.size (by simp [maxLen]) rfl)
      go_wp2_with (first
        | ((with_reducible refine gate_dst (N := 26) rfl ?_); refine wpList_append_own (w2.alloc (.cells #[] 5)) rfl (.tmp 22) (.tmp 25) 22 rfl w.heap.size 5 i (.int .u8 0) 1 1 (show Try.prog.underlying 22 = some (.slice 5) by kernel_rfl) hi hi1 hi2 hi3 rfl (by decide) _ 0 [] rfl hown0.out ad n cap (vals (l.take n)) rfl hv.out hvc.out (vals_one _) (by rw [Nat.zero_add]; exact hb0.out.2) (by rw [Nat.zero_add]; exact hb0.out.1) (Nat.le_trans HB3.out.size (by simp)) ?_; intro v1 w3 hown hgr _; have HOWN := Lib.hid hown; have HGR := Lib.hid (Below.grown (HB3.out.alloc HB3.out.size _) hgr (Nat.le_trans HB3.out.size (by simp)) (fun k hk => by cases hk; exact HB3.out.size)); clear hown hgr))
      go_ret2
      have h := HOWN.out
      rw [Nat.zero_add, List.nil_append] at h
      exact UnPost.good HG.out h HGR.out

end Go.Proofs.Ytmeojlamadcedaa

namespace Go.Proofs.Ytmeojlamadcedaa.Given
open Go.RowKit Go.Proofs.YtmeojlamadcedaaW.PrintWords Go.Proofs.YtmeojlamadcedaaW.PrintLast Go.Proofs.YtmeojlamadcedaaW.PrintMore

def Byt (l : List Int) : Prop := ∀ x ∈ l, 0 ≤ x ∧ x < 256
instance (l : List Int) : Decidable (Byt l) := List.decidableBAll _ l
def u8s (l : List Int) : List UInt8 := l.map fun x => UInt8.ofNat x.toNat
def ints (l : List UInt8) : List Int := l.map fun b => ((b.toNat : Nat) : Int)
theorem u8s_len (l : List Int) : (u8s l).length = l.length := by simp [u8s]
theorem ints_len (l : List UInt8) : (ints l).length = l.length := by simp [ints]
theorem ints_u8s {l : List Int} (h : Byt l) : ints (u8s l) = l := by
  unfold ints u8s
  rw [List.map_map]
  have e : l.map ((fun b : UInt8 => ((b.toNat : Nat) : Int)) ∘ fun x => UInt8.ofNat x.toNat) = l.map id := List.map_congr_left fun x hx => by
    have := h x hx
    show (((UInt8.ofNat x.toNat).toNat : Nat) : Int) = x
    rw [UInt8.toNat_ofNat']; omega
  rw [e, List.map_id]
theorem vals_ints (l : List UInt8) : vals l = encs (Value.int .u8) (ints l) := by
  unfold vals ints encs; rw [List.map_map]; rfl
theorem at_ints (l : List UInt8) (i : Nat) : (ints l).getD i 0 = (((l.getD i 0).toNat : Nat) : Int) := by
  unfold ints
  rw [List.getD_eq_getElem?_getD, List.getD_eq_getElem?_getD, List.getElem?_map]
  cases l[i]? <;> rfl

/-- What a row of bytes says of the cells. -/
theorem reads8 {w : World} {A0 : Option Addr} {l0 : List Int} (hB : Byt l0) (hr0 : Kd.C (Kd.int .u8) w A0 l0.length l0) :
    (l0 = [] ∨ A0 ≠ none) ∧ ∀ ad, A0 = some ad → ∀ i, i < (u8s l0).length → w.cell? (ad.add i) = some (.int .u8 (((u8s l0).getD i 0).toNat : Nat)) := by
  have hr := Kd.reads_of_C (enc := Value.int .u8) (d := (0 : Int)) (h1 := fun _ => rfl) hr0
  rcases Nat.eq_zero_or_pos l0.length with h0 | h0
  · obtain rfl : l0 = [] := List.eq_nil_of_length_eq_zero h0
    exact ⟨.inl rfl, fun ad _ i hi => by simp [u8s] at hi⟩
  · obtain ⟨ad, rfl, hcell⟩ := hr.2.2 h0
    refine ⟨.inr (by simp), fun ad' e i hi => ?_⟩
    obtain rfl := Option.some.inj e
    have h := hcell i (by rw [u8s_len] at hi; exact hi)
    rw [← at_ints, ints_u8s hB]
    exact h

theorem nil_of {A0 : Option Addr} {l0 : List Int} (h : l0 = [] ∨ A0 ≠ none) : A0 = none → u8s l0 = [] := fun e => by
  rcases h with rfl | h
  · rfl
  · exact absurd e h

def checksum_Sum.f (l0 : List Int) : Option Int := if Byt l0 ∧ l0.length < 1000000000000 then some ((Ck.sum (u8s l0) : Nat) : Int) else none
theorem checksum_Sum.calls (A0 : Option Addr) (c0 : Nat) (l0 : List Int) (r : Int) (w : World) (hr0 : Kd.C (Kd.int .u8) w A0 l0.length l0) (_hc0 : l0.length ≤ c0)
    (h : checksum_Sum.f l0 = some r) :
    Calls Try.prog 27 #[.slice A0 l0.length c0] w fun e w' => e = .returned (.int .u32 r) ∧ Below w.heap.size w w' := by
  unfold checksum_Sum.f at h
  split at h
  · rename_i hs
    obtain rfl := Option.some.inj h
    obtain ⟨hn, hc⟩ := reads8 hs.1 hr0
    have h := sum_any A0 c0 (u8s l0) w (by rw [u8s_len]; omega) (nil_of hn) hc
    rwa [u8s_len] at h
  · cases h

def corporaref03_Sum.f (l0 : List Int) : Option Int := if Byt l0 ∧ l0.length < 1000000000000 then some ((Ck.sum (u8s l0) : Nat) : Int) else none
theorem corporaref03_Sum.calls (A0 : Option Addr) (c0 : Nat) (l0 : List Int) (r : Int) (w : World) (hr0 : Kd.C (Kd.int .u8) w A0 l0.length l0) (hc0 : l0.length ≤ c0)
    (h : corporaref03_Sum.f l0 = some r) :
    Calls Try.prog 28 #[.slice A0 l0.length c0] w fun e w' => e = .returned (.int .u32 r) ∧ Drawn0 w w' := by
  unfold corporaref03_Sum.f at h
  split at h
  · rename_i hs
    obtain rfl := Option.some.inj h
    obtain ⟨hn, hc⟩ := reads8 hs.1 hr0
    cases A0 with
    | some ad =>
      have h := rsum_some ad c0 (u8s l0) w (by rw [u8s_len]; omega) (hc ad rfl)
      rw [u8s_len] at h
      exact h.mono fun e w' hq => ⟨hq.1, ⟨hq.2⟩⟩
    | none =>
      obtain rfl : l0 = [] := by rcases hn with hn | hn; · exact hn
                                 · exact absurd rfl hn
      exact (rsum_none c0 w).mono fun e w' hq => ⟨hq.1, ⟨hq.2⟩⟩
  · cases h

def checksum_Seal.f (l0 : List Int) : Option (List Int) := if Byt l0 ∧ l0.length < 1000000000000 then some (ints (Ck.shutIt (u8s l0))) else none
theorem checksum_Seal.calls (A0 : Option Addr) (c0 : Nat) (l0 : List Int) (r : List Int) (w : World) (hr0 : Kd.C (Kd.int .u8) w A0 l0.length l0) (hc0 : l0.length ≤ c0)
    (h : checksum_Seal.f l0 = some r) :
    Calls Try.prog 30 #[.slice A0 l0.length c0] w fun e w' => ∃ v0_ : Value, e = .returned v0_ ∧ Kd.R (Kd.int .u8) 5 w' w.heap.size (fun _ => True) v0_ r ∧ Below w.heap.size w w' := by
  unfold checksum_Seal.f at h
  split at h
  · rename_i hs
    obtain rfl := Option.some.inj h
    obtain ⟨hn, hc⟩ := reads8 hs.1 hr0
    have h := seal_any A0 c0 (u8s l0) w (by rw [u8s_len]; omega) (by rw [u8s_len]; omega) (nil_of hn) hc (by rw [u8s_len]; exact hc0)
    rw [u8s_len] at h
    refine h.mono fun e w' hq => ?_
    obtain ⟨⟨v, he, ho⟩, hb⟩ := hq
    refine ⟨v, he, ?_, hb⟩
    rw [vals_ints, ← ints_len] at ho
    exact Kd.R_of_own ho (fun _ _ => trivial)
  · cases h

def checksum_Unseal.f (l0 : List Int) : Option (List Int × Int) :=
  if Byt l0 ∧ l0.length < 1000000000000 then
    (if l0.length < 4 then some ([], 10)
     else if Ck.le4 (Ck.sum ((u8s l0).take (l0.length - 4))) = (u8s l0).drop (l0.length - 4) then some (ints ((u8s l0).take (l0.length - 4)), 0) else some ([], 9))
  else none
theorem checksum_Unseal.calls (A0 : Option Addr) (c0 : Nat) (l0 : List Int) (r1 : List Int) (r2 : Int) (w : World) (hr0 : Kd.C (Kd.int .u8) w A0 l0.length l0) (hc0 : l0.length ≤ c0)
    (h : checksum_Unseal.f l0 = some (r1, r2)) :
    Calls Try.prog 31 #[.slice A0 l0.length c0] w fun e w' => ∃ v0_ : Value, e = .returned (.tuple #[v0_, .int .i64 r2]) ∧ Kd.R (Kd.int .u8) 5 w' w.heap.size (fun _ => True) v0_ r1 ∧ Below w.heap.size w w' := by
  unfold checksum_Unseal.f at h
  split at h
  · rename_i hs
    obtain ⟨hn, hc⟩ := reads8 hs.1 hr0
    split at h
    · rename_i h4
      have h5 := unseal_short A0 c0 (u8s l0) w (by rw [u8s_len]; exact h4)
      rw [u8s_len] at h5
      have he := Option.some.inj h
      simp only [Prod.mk.injEq] at he
      obtain ⟨rfl, rfl⟩ := he
      exact h5.mono fun e w' hq => ⟨_, hq.1, Kd.R_nil _ _ _ _ _, hq.2⟩
    · rename_i h4
      obtain ⟨ad, rfl⟩ : ∃ ad, A0 = some ad := by
        cases A0 with
        | some ad => exact ⟨ad, rfl⟩
        | none => rcases hn with rfl | hn
                  · exact absurd (by decide) h4
                  · exact absurd rfl hn
      have h5 := unseal_long ad c0 (l0.length - 4) (u8s l0) w (by rw [u8s_len]; omega) (by rw [u8s_len]; omega) (by rw [u8s_len]; omega) (hc ad rfl) (by rw [u8s_len]; exact hc0)
      rw [u8s_len] at h5
      refine h5.mono fun e w' hq => ?_
      obtain ⟨hq, hb⟩ := hq
      split at h
      · rename_i hg
        rw [if_pos hg] at hq
        have he := Option.some.inj h
        simp only [Prod.mk.injEq] at he
        obtain ⟨rfl, rfl⟩ := he
        obtain ⟨v, he, ho⟩ := hq
        refine ⟨v, he, ?_, hb⟩
        rw [vals_ints] at ho
        have hl : (ints ((u8s l0).take (l0.length - 4))).length = l0.length - 4 := by rw [ints_len, List.length_take, u8s_len]; omega
        generalize ints ((u8s l0).take (l0.length - 4)) = m at *
        rw [← hl] at ho
        exact Kd.R_of_own ho (fun _ _ => trivial)
      · rename_i hg
        rw [if_neg hg] at hq
        have he := Option.some.inj h
        simp only [Prod.mk.injEq] at he
        obtain ⟨rfl, rfl⟩ := he
        exact ⟨_, hq, Kd.R_nil _ _ _ _ _, hb⟩
  · cases h

def U32 (x : Int) : Prop := 0 ≤ x ∧ x < 4294967296
instance (x : Int) : Decidable (U32 x) := inferInstanceAs (Decidable (_ ∧ _))
def checksum_Combine.f (a0 a1 a2 : Int) : Option Int :=
  if U32 a0 ∧ U32 a1 ∧ a2 < 1000000000000 then (if a2 < 0 then some 0 else some ((Ck.sts (8 * a2.toNat) a0.toNat ^^^ a1.toNat : Nat) : Int)) else none
theorem checksum_Combine.calls (a0 a1 a2 : Int) (r : Int) (w : World) (h : checksum_Combine.f a0 a1 a2 = some r) :
    Calls Try.prog 34 #[.int .u32 a0, .int .u32 a1, .int .i64 a2] w fun e w' => e = .returned (.int .u32 r) ∧ Below w.heap.size w w' := by
  unfold checksum_Combine.f at h
  split at h
  · rename_i hs
    obtain ⟨⟨h1, h2⟩, ⟨h3, h4⟩, h5⟩ := hs
    split at h
    · rename_i hneg
      obtain rfl := Option.some.inj h
      exact combine_neg a0 a1 a2 hneg w
    · rename_i hneg
      obtain rfl := Option.some.inj h
      have h := combine_calls a0.toNat a1.toNat a2.toNat (by omega) (by omega) (by omega) w
      rw [Int.toNat_of_nonneg h1, Int.toNat_of_nonneg h3, Int.toNat_of_nonneg (by omega)] at h
      exact h
  · cases h

end Go.Proofs.Ytmeojlamadcedaa.Given
