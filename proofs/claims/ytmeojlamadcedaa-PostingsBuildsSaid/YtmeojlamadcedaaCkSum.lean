/- checksum.Sum: the table of sixteen steps, then two steps a byte.
   Conditions: those of the theorems. -/
import Derived.Test.YtmeojlamadcedaaCkStep
import Derived.Test.YtmeojlamadcedaaWWords
import Derived.WalkSmall
import Derived.WalkSpells
namespace Go.Proofs.Ytmeojlamadcedaa
open Go.RowKit Go.Sort Go.Proofs.YtmeojlamadcedaaW.PrintWords

theorem and_15 {v : Nat} (hv : v < 2 ^ 32) : bits .and .u32 ((v : Nat) : Int) 15 = ((v % 16 : Nat) : Int) := by
  rw [show (15 : Int) = ((15 : Nat) : Int) from rfl, u32_and_nat _ _ (by omega) (by omega), nat_mask4]
theorem nibble {v : Nat} (hv : v < 2 ^ 32) : bits .xor .u32 (((v : Nat) : Int) / 16) ((Ck.sts 4 (v % 16) : Nat) : Int) = ((Ck.sts 4 v : Nat) : Int) := by
  rw [show ((v : Int) / 16) = ((v / 16 : Nat) : Int) from by omega, xor_u32 (by omega) (Ck.sts_lt _ _ (by omega)), ← Ck.sts4_table]

theorem step4 (v : Nat) (hv : v < 2 ^ 32) (w : World) : Calls Try.prog 65 #[.int .u32 v, .int .i64 4] w fun e w' => e = .returned (.int .u32 (Ck.sts 4 v)) ∧ ∃ q, w' = w.drewN q :=
  step_calls v 4 hv (by omega) w
theorem step8 (v : Nat) (hv : v < 2 ^ 32) (w : World) : Calls Try.prog 65 #[.int .u32 v, .int .i64 8] w fun e w' => e = .returned (.int .u32 (Ck.sts 8 v)) ∧ ∃ q, w' = w.drewN q :=
  step_calls v 8 hv (by omega) w

set_option maxHeartbeats 1000000 in
theorem sum_some (ad : Addr) (cap : Nat) (l : List UInt8) (w : World) (hn : l.length < 1152921504606846976)
    (hc : ∀ i, i < l.length → w.cell? (ad.add i) = some (.int .u8 ((l.getD i 0).toNat : Nat))) :
    Calls Try.prog 27 #[.slice (some ad) l.length cap] w fun e w' => e = .returned (.int .u32 (Ck.sum l)) ∧ Below w.heap.size w w' := by
  have HC := Lib.hid hc
  clear hc
  have HR := Lib.hid (fun i => @reg_take l i)
  have HL := Lib.hid (fun i => Ck.reg_lt (l.take i) 4294967295 (by omega))
  have HE : Hid (Ck.neg (Ck.reg 4294967295 (l.take l.length)) = Ck.sum l) := Lib.hid (by rw [List.take_length]; rfl)
  generalize hN : l.length = N at *
  go_enter Try.func27, Try.ntmps27
  go_wp2
  generalize hg : w.heap.size = g
  generalize hW0 : w.alloc _ = W0
  have hb0 : Below g w W0 := by rw [← hW0, ← hg]; exact (Below.refl _ w).alloc (Nat.le_refl _) _
  have HB0 := Lib.hid hb0
  have hk0 : W0.heap[g]? = some (.cells (Array.replicate 16 (.int .u32 0)) 81 (0, 0)) := by rw [← hW0, ← hg]; exact blk_new _ _
  clear hb0
  go_loopg [8] 16 (fun kx s8 wr => ∃ (i : Nat) (cs : Array Value) (W : World), W = wr ∧ s8 = .int .i64 i ∧ i ≤ 16 ∧ 16 - i ≤ kx ∧ Below g w wr ∧ wr.heap[g]? = some (.cells cs 81 (0, 0)) ∧ cs.size = 16 ∧ ∀ j, j < i → cs[j]? = some (.int .u32 (Ck.sts 4 j)))
  case atStart => exact ⟨0, _, _, rfl, rfl, by omega, by omega, HB0.out, hk0, rfl, fun j hj => by omega⟩
  case round =>
    obtain ⟨i, cs, Wx, rfl, rfl, hi, hk, hb, hblk, hsz, hcs⟩ := hrel
    have HB := Lib.hid hb
    have HCS := Lib.hid hcs
    have HK := Lib.hid hblk
    clear hb hcs hblk
    by_cases hlt : i < 16
    · have hz : decide ((i : Int) < 16) = true := by simp; omega
      have h0 : (0 : Int) ≤ (i : Int) := by omega
      have hlt' : (i : Int) < 16 := by omega
      obtain ⟨old, hold⟩ : ∃ old, cs[i]? = some old := ⟨_, Array.getElem?_eq_getElem (by omega)⟩
      have hcell : ∀ q, (Wx.drewN q).cell? ⟨g, i, none⟩ = some old := fun q => (blk_cell (w := Wx.drewN q) HK.out i).trans hold
      have hfr : Wx.frozen? ⟨g, i, none⟩ = false := blk_frozen HK.out i
      go_wp2_with (go_at_call 65; (with_reducible refine (step4 i (by omega) _).mono ?_); rintro e w' ⟨rfl, nd, rfl⟩)
      go_roundg (16 - (i + 1))
      case measure => omega
      case rel =>
        refine ⟨i + 1, _, _, rfl, rfl, by omega, by omega, (below_drewN HB.out nd).setCell (Nat.le_refl _) _, blk_set (blk_drewN HK.out nd) i _, by simp [hsz], fun j hj => ?_⟩
        rw [Array.getElem?_setIfInBounds]
        by_cases hij : i = j
        · subst hij; rw [if_pos rfl, if_pos (by omega)]
        · rw [if_neg hij]; exact HCS.out j (by omega)
    · have hz : decide ((i : Int) < 16) = false := by simp; omega
      obtain rfl : i = 16 := by omega
      go_wp2
      have htab : ∀ j, j < 16 → Wx.cell? ⟨g, j, none⟩ = some (.int .u32 (Ck.sts 4 j)) := fun j hj => (blk_cell HK.out j).trans (HCS.out j hj)
      have HT := Lib.hid htab
      have hcx : ∀ i, i < N → Wx.cell? (ad.add i) = some (.int .u8 ((l.getD i 0).toNat : Nat)) := fun i hi => by
        subst hg; exact cell_later HB.out (HC.out i hi)
      have HCX := Lib.hid hcx
      clear htab hcx
      go_loopg [5, 19] N (fun kx s5 s19 wr => ∃ (i q : Nat), s5 = .int .u32 (Ck.reg 4294967295 (l.take i)) ∧ s19 = .int .i64 i ∧ i ≤ N ∧ N - i ≤ kx ∧ wr = Wx.drewN q)
      case atStart => exact ⟨0, 0, rfl, rfl, by omega, by omega, rfl⟩
      case round =>
        obtain ⟨i, q, rfl, rfl, hi, hk, rfl⟩ := hrel
        by_cases hlt : i < N
        · have hz : decide ((i : Int) < (N : Int)) = true := by simpa using hlt
          have hlt' : (i : Int) < (N : Int) := by omega
          have h0' : (0 : Int) ≤ (i : Int) := by omega
          have hcl := HCX.out i hlt
          have hvi := HL.out i
          have hsucc := HR.out i (by omega) 4294967295
          have hb := (l.getD i 0).toNat_lt
          generalize Ck.reg 4294967295 (l.take i) = u at *
          generalize (l.getD i 0).toNat = b at *
          have h0 : (0 : Int) ≤ (u : Int) := by omega
          have hx := xor_u32 hvi (show b < 2 ^ 32 by omega)
          have hxl : u ^^^ b < 2 ^ 32 := Nat.xor_lt_two_pow hvi (by omega)
          have hby : Ck.by1 u b = Ck.sts 4 (Ck.sts 4 (u ^^^ b)) := Ck.sts_add 4 4 _
          generalize u ^^^ b = x at *
          have hx0 : (0 : Int) ≤ (x : Int) := by omega
          have hm1 := and_15 hxl
          have hn1 := nibble hxl
          have hc1 := HT.out (x % 16) (by omega)
          have hyl : Ck.sts 4 x < 2 ^ 32 := Ck.sts_lt _ _ hxl
          generalize Ck.sts 4 x = y at *
          have hy0 : (0 : Int) ≤ (y : Int) := by omega
          have hm2 := and_15 hyl
          have hn2 := nibble hyl
          have hc2 := HT.out (y % 16) (by omega)
          go_wp2
          go_roundg (N - (i + 1))
          case measure => omega
          case rel => exact ⟨i + 1, q, by rw [hsucc, hby], rfl, by omega, by omega, rfl⟩
        · have hz : decide ((i : Int) < (N : Int)) = false := by simpa using hlt
          obtain rfl : i = N := by omega
          have hvi := HL.out i
          have he := HE.out
          have hx := not_u32 hvi
          rw [he] at hx
          go_wp2
          go_ret
          exact ⟨rfl, below_drewN HB.out q⟩

theorem sum_none (cap : Nat) (w : World) :
    Calls Try.prog 27 #[.slice none 0 cap] w fun e w' => e = .returned (.int .u32 (Ck.sum [])) ∧ Below w.heap.size w w' := by
  go_enter Try.func27, Try.ntmps27
  go_wp2
  generalize hg : w.heap.size = g
  generalize hW0 : w.alloc _ = W0
  have hb0 : Below g w W0 := by rw [← hW0, ← hg]; exact (Below.refl _ w).alloc (Nat.le_refl _) _
  have HB0 := Lib.hid hb0
  have hk0 : W0.heap[g]? = some (.cells (Array.replicate 16 (.int .u32 0)) 81 (0, 0)) := by rw [← hW0, ← hg]; exact blk_new _ _
  clear hb0
  go_loopg [8] 16 (fun kx s8 wr => ∃ (i : Nat) (cs : Array Value) (W : World), W = wr ∧ s8 = .int .i64 i ∧ i ≤ 16 ∧ 16 - i ≤ kx ∧ Below g w wr ∧ wr.heap[g]? = some (.cells cs 81 (0, 0)) ∧ cs.size = 16)
  case atStart => exact ⟨0, _, _, rfl, rfl, by omega, by omega, HB0.out, hk0, rfl⟩
  case round =>
    obtain ⟨i, cs, Wx, rfl, rfl, hi, hk, hb, hblk, hsz⟩ := hrel
    have HB := Lib.hid hb
    have HK := Lib.hid hblk
    clear hb hblk
    by_cases hlt : i < 16
    · have hz : decide ((i : Int) < 16) = true := by simp; omega
      have h0 : (0 : Int) ≤ (i : Int) := by omega
      have hlt' : (i : Int) < 16 := by omega
      obtain ⟨old, hold⟩ : ∃ old, cs[i]? = some old := ⟨_, Array.getElem?_eq_getElem (by omega)⟩
      have hcell : ∀ q, (Wx.drewN q).cell? ⟨g, i, none⟩ = some old := fun q => (blk_cell (w := Wx.drewN q) HK.out i).trans hold
      have hfr : Wx.frozen? ⟨g, i, none⟩ = false := blk_frozen HK.out i
      go_wp2_with (go_at_call 65; (with_reducible refine (step4 i (by omega) _).mono ?_); rintro e w' ⟨rfl, nd, rfl⟩)
      go_roundg (16 - (i + 1))
      case measure => omega
      case rel => exact ⟨i + 1, _, _, rfl, rfl, by omega, by omega, (below_drewN HB.out nd).setCell (Nat.le_refl _) _, blk_set (blk_drewN HK.out nd) i _, by simp [hsz]⟩
    · have hz : decide ((i : Int) < 16) = false := by simp; omega
      obtain rfl : i = 16 := by omega
      go_wp2
      go_loopg [5, 19] 0 (fun kx s5 s19 wr => ∃ (q : Nat), s5 = .int .u32 4294967295 ∧ s19 = .int .i64 0 ∧ 0 ≤ kx ∧ wr = Wx.drewN q)
      case atStart => exact ⟨0, rfl, rfl, by omega, rfl⟩
      case round =>
        obtain ⟨q, rfl, rfl, hk, rfl⟩ := hrel
        go_wp2
        go_ret
        exact ⟨rfl, below_drewN HB.out q⟩

end Go.Proofs.Ytmeojlamadcedaa
