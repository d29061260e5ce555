/- checksum.Combine: the matrix of 32 images, squared and applied by the bits of the length.
   Conditions: those of the theorems. -/
import Derived.Test.YtmeojlamadcedaaCkSum
import Derived.Lib.RabinKarpLaws
namespace Go.Proofs.Ytmeojlamadcedaa
open Go.RowKit Go.Sort Go.Proofs.YtmeojlamadcedaaW.PrintWords

/-- Block g holds the images of the 32 bits under k steps. -/
def Mat (k : Nat) (cs : Array Value) : Prop := cs.size = 32 ∧ ∀ j, j < 32 → cs[j]? = some (.int .u32 (Ck.sts k (2 ^ j)))

theorem bit_odd {u : Nat} (h : u % 2 = 1) : decide (((u % 2 : Nat) : Int) = 1) = true := by simp [h]
theorem bit_even {u : Nat} (h : ¬ u % 2 = 1) : decide (((u % 2 : Nat) : Int) = 1) = false := by simp; omega

set_option maxHeartbeats 1000000 in
theorem of_calls (g k : Nat) (cs : Array Value) (v : Nat) (hv : v < 2 ^ 32) (w : World) (hm : Mat k cs) (hw : w.heap[g]? = some (.cells cs 86 (0, 0))) :
    Calls Try.prog 68 #[.pointer (some ⟨g, 0, none⟩), .int .u32 v] w fun e w' => e = .returned (.int .u32 (Ck.sts k v)) ∧ ∃ q, w' = w.drewN q := by
  have HM := Lib.hid hm
  have HK := Lib.hid hw
  clear hm hw
  go_enter Try.func68, Try.ntmps68
  go_wp2
  go_loopg [1, 5, 6] 32 (fun kx s1 s5 s6 wr => ∃ (i q : Nat), s1 = .int .u32 (v / 2 ^ i : Nat) ∧ s5 = .int .u32 (Ck.sts k (v % 2 ^ i) : Nat) ∧ s6 = .int .i64 i ∧ i ≤ 32 ∧ 32 - i ≤ kx ∧ wr = w.drewN q)
  case atStart => exact ⟨0, 0, by simp, by simp [Nat.mod_one, Ck.sts_zero], rfl, by omega, by omega, rfl⟩
  case round =>
    obtain ⟨i, q, rfl, rfl, rfl, hi, hk, rfl⟩ := hrel
    have hsp := Ck.mod_of_div_zero v i
    have hone := Ck.sts_round_one k v i
    have hzero := Ck.sts_round_zero k v i
    have hhalf := Ck.div_pow_succ v i
    have hlo : v / 2 ^ i < 2 ^ (32 - i) := by
      rw [Nat.div_lt_iff_lt_mul (Nat.two_pow_pos i), ← Nat.pow_add, show 32 - i + i = 32 by omega]; exact hv
    have hle : v / 2 ^ i < 2 ^ 32 := Nat.lt_of_le_of_lt (Nat.div_le_self _ _) hv
    have hsl : Ck.sts k (v % 2 ^ i) < 2 ^ 32 := Ck.sts_lt _ _ (Nat.lt_of_le_of_lt (Nat.mod_le _ _) hv)
    have hpl : i < 32 → Ck.sts k (2 ^ i) < 2 ^ 32 := fun h => Ck.sts_lt _ _ (Nat.pow_lt_pow_right (by omega) h)
    have hi32 : v / 2 ^ i ≠ 0 → i < 32 := fun h => by
      rcases Nat.lt_or_ge i 32 with h1 | h1
      · exact h1
      · obtain rfl : i = 32 := by omega
        rw [show 32 - 32 = 0 from rfl, Nat.pow_zero] at hlo
        omega
    clear hlo
    generalize v / 2 ^ i = u at *
    have hsp2 : u = 0 → Ck.sts k (v % 2 ^ i) = Ck.sts k v := fun h => by rw [hsp h]
    generalize Ck.sts k (v % 2 ^ i) = x at *
    have hu0 : (0 : Int) ≤ (u : Int) := by omega
    have hi0 : (0 : Int) ≤ (i : Int) := by omega
    by_cases hz0 : u = 0
    · subst hz0
      have he := hsp2 rfl
      subst he
      go_wp2
      go_ret
      exact ⟨rfl, q, rfl⟩
    · have hz : decide (((u : Nat) : Int) = 0) = false := by simp [hz0]
      have hi := hi32 hz0
      have hiI : (i : Int) < 32 := by omega
      have hand := and_one hle
      have hc := (blk_cell HK.out i).trans (HM.out.2 i hi)
      have hpl := hpl hi
      generalize Ck.sts k (2 ^ i) = y at *
      have hx := xor_u32 hsl hpl
      by_cases ho : u % 2 = 1
      · have hd := bit_odd ho
        go_wp2
        go_roundg (32 - (i + 1))
        case measure => omega
        case rel => exact ⟨i + 1, q, by rw [hhalf]; congr 1, by first | rfl | rw [hone ho], rfl, by omega, by omega, rfl⟩
      · have hd := bit_even ho
        go_wp2
        go_roundg (32 - (i + 1))
        case measure => omega
        case rel => exact ⟨i + 1, q, by rw [hhalf]; congr 1, by first | rfl | rw [hzero (by omega)], rfl, by omega, by omega, rfl⟩

theorem und86 : Try.prog.underlying 86 = some (.array 32 23) := by kernel_rfl
theorem size86 : (Try.prog.info? 86).map (·.size) = some 32 := by kernel_rfl
theorem load86 {w : World} {g : Nat} {cs : Array Value} (h : w.heap[g]? = some (.cells cs 86 (0, 0))) (hs : cs.size = 32) :
    (Instr.loadAt 86 (.pointer (some ⟨g, 0, none⟩))).run Try.prog w = .ok (.agg cs) w := by
  simp only [Instr.loadAt, Instr.sureAddr, Sem.run_bind, Sem.run_pure, Result.andThen_ok, run_loadVar_row w g 86 86 cs (0, 0) _ h und86 rfl (by rw [hs]; exact size86)]
theorem mat_one {k : Nat} {cs : Array Value} (h : Mat k cs) : cs.all (·.oneCell') = true := by
  rw [Array.all_eq_true]
  intro i hi
  have := h.2 i (by rw [← h.1]; exact hi)
  rw [Array.getElem?_eq_getElem hi] at this
  rw [Option.some.inj this]; rfl
theorem store86 {w : World} {g k : Nat} {old cs : Array Value} (h : w.heap[g]? = some (.cells old 86 (0, 0))) (hs : old.size = 32) (hm : Mat k cs) :
    (Instr.storeAt 86 (.pointer (some ⟨g, 0, none⟩)) (.agg cs)).run Try.prog w = .ok () (w.setRow g cs) := by
  simp only [Instr.storeAt, Instr.sureAddr, Sem.run_bind, Sem.run_pure, Result.andThen_ok, run_storeVar_row w g 86 86 old cs h (by rw [hm.1]; exact size86) (by rw [hs, hm.1]) (mat_one hm)]
theorem setRow_below {B g : Nat} {w W : World} (h : Below B w W) (hg : B ≤ g) (cs : Array Value) : Below B w (W.setRow g cs) :=
  ⟨h.os, h.tape, h.output, by rw [size_setRow]; exact h.size, fun k hk => (setRow_other W g k cs (by omega)).trans (h.block k hk)⟩

set_option maxHeartbeats 1000000 in
set_option maxRecDepth 100000 in
theorem twice_calls (g m : Nat) (cs : Array Value) (w : World) (hm : Mat (8 * 2 ^ m) cs) (hw : w.heap[g]? = some (.cells cs 86 (0, 0))) :
    Calls Try.prog 69 #[.pointer (some ⟨g, 0, none⟩)] w fun e w' => (∃ cs', e = .returned (.agg cs') ∧ Mat (8 * 2 ^ (m + 1)) cs') ∧ Below w.heap.size w w' := by
  have HM := Lib.hid hm
  have HK := Lib.hid hw
  have HG := Lib.hid (blk_lt hw)
  clear hm hw
  go_enter Try.func69, Try.ntmps69
  go_wp2
  generalize hW0 : (w.alloc _).alloc _ = W0
  have hb0 : Below w.heap.size w W0 := by rw [← hW0]; exact ((Below.refl _ w).alloc (Nat.le_refl _) _).alloc (by simp) _
  have HB0 := Lib.hid hb0
  have hk0 : W0.heap[w.heap.size + 1]? = some (.cells (Array.replicate 32 (.int .u32 0)) 86 (0, 0)) := by
    rw [← hW0, show w.heap.size + 1 = (w.alloc (.cells (Array.replicate 32 (.int .u32 0)) 86 (0, 0))).heap.size from by simp]; exact blk_new _ _
  have hr0 : W0.heap[w.heap.size]? = some (.cells (Array.replicate 32 (.int .u32 0)) 86 (0, 0)) := by rw [← hW0]; exact blk_alloc (blk_new _ _) _
  clear hb0 hW0
  generalize hg : w.heap.size = gw at *
  go_loopg [5] 32 (fun kx s5 wr => ∃ (i : Nat) (xs : Array Value) (W : World), W = wr ∧ s5 = .int .i64 i ∧ i ≤ 32 ∧ 32 - i ≤ kx ∧ Below gw w wr ∧ wr.heap[gw]? = some (.cells (Array.replicate 32 (.int .u32 0)) 86 (0, 0)) ∧ wr.heap[gw + 1]? = some (.cells xs 86 (0, 0)) ∧ xs.size = 32 ∧ ∀ j, j < i → xs[j]? = some (.int .u32 (Ck.sts (8 * 2 ^ (m + 1)) (2 ^ j))))
  case atStart => exact ⟨0, _, _, rfl, rfl, by omega, by omega, HB0.out, hr0, hk0, rfl, fun j hj => by omega⟩
  case round =>
    obtain ⟨i, xs, Wx, rfl, rfl, hi, hk, hb, hres, hblk, hsz, hxs⟩ := hrel
    have HB := Lib.hid hb
    have HRS := Lib.hid hres
    have HX := Lib.hid hxs
    have HKX := Lib.hid hblk
    have hkm : Wx.heap[g]? = some (.cells cs 86 (0, 0)) := by rw [← hg] at hb; exact blk_below HK.out hb
    have HKM := Lib.hid hkm
    clear hb hxs hblk hres hkm
    by_cases hlt : i < 32
    · have hz : decide ((i : Int) < 32) = true := by simp; omega
      have h0 : (0 : Int) ≤ (i : Int) := by omega
      have hlt' : (i : Int) < 32 := by omega
      obtain ⟨old, hold⟩ : ∃ old, xs[i]? = some old := ⟨_, Array.getElem?_eq_getElem (by omega)⟩
      have hcell : ∀ q, (Wx.drewN q).cell? ⟨gw + 1, i, none⟩ = some old := fun q => (blk_cell (w := Wx.drewN q) HKX.out i).trans hold
      have hfr : Wx.frozen? ⟨gw + 1, i, none⟩ = false := blk_frozen HKX.out i
      have him : Wx.cell? ⟨g, i, none⟩ = some (.int .u32 (Ck.sts (8 * 2 ^ m) (2 ^ i))) := (blk_cell HKM.out i).trans (HM.out.2 i hlt)
      have hpl : Ck.sts (8 * 2 ^ m) (2 ^ i) < 2 ^ 32 := Ck.sts_lt _ _ (Nat.pow_lt_pow_right (by omega) hlt)
      have htw := Ck.twice_img m (2 ^ i)
      generalize Ck.sts (8 * 2 ^ m) (2 ^ i) = y at *
      have hy0 : (0 : Int) ≤ (y : Int) := by omega
      go_wp2_with (go_at_call 68; (with_reducible refine (of_calls g (8 * 2 ^ m) cs y hpl _ HM.out HKM.out).mono ?_); rintro e w' ⟨rfl, nd, rfl⟩)
      go_roundg (32 - (i + 1))
      case measure => omega
      case rel =>
        refine ⟨i + 1, _, _, rfl, rfl, by omega, by omega, (below_drewN HB.out nd).setCell (Nat.le_succ _) _, blk_far (blk_drewN HRS.out nd) (by simp) _, blk_set (blk_drewN HKX.out nd) i _, by simp [hsz], fun j hj => ?_⟩
        rw [Array.getElem?_setIfInBounds]
        by_cases hij : i = j
        · subst hij; rw [if_pos rfl, if_pos (by omega)]
        · rw [if_neg hij]; exact HX.out j (by omega)
    · have hz : decide ((i : Int) < 32) = false := by simp; omega
      obtain rfl : i = 32 := by omega
      have hm2 : Mat (8 * 2 ^ (m + 1)) xs := ⟨hsz, HX.out⟩
      have HM2 := Lib.hid hm2
      clear hm2
      have hsx : (Try.prog.info? 86).map (·.size) = some xs.size := by rw [hsz]; exact size86
      have hso : (Array.replicate 32 (Value.int .u32 0)).size = xs.size := by rw [hsz]; rfl
      have hone := Lib.hid (mat_one HM2.out)
      go_wp2_with (first
        | ((with_reducible refine gate_dst (N := 18) rfl ?_); refine wpList_load_row rfl 86 (.tmp 3) rfl (gw + 1) rfl 86 xs (0, 0) _ HKX.out und86 rfl hsx ?_)
        | ((with_reducible refine gate_store (t := 86) (p := 2) rfl ?_); refine wpList_store_row rfl 86 (.tmp 2) (.tmp 18) rfl gw xs rfl rfl 86 _ HRS.out hsx hso hone.out ?_))
      have hk2 : (Wx.setRow gw xs).heap[gw]? = some (.cells xs 86 (0, 0)) := setRow_heap _ _ _ _ _ _ HRS.out
      refine bodyPost_ret (results_cell_row rfl _ _ gw 86 xs (0, 0) _ rfl hk2 und86 rfl (by rw [hsz]; exact size86)) rfl ?_
      exact ⟨⟨_, rfl, HM2.out⟩, by rw [hg]; exact setRow_below HB.out (Nat.le_refl _) _⟩

theorem two_pow_i {i p : Nat} (hp : p = 2 ^ i) (hpl : 2 ^ i < 2 ^ 32) : (2 : Int) ^ i % 4294967296 = (p : Int) := by
  have e : (2 : Int) ^ i = ((2 ^ i : Nat) : Int) := by rw [Int.natCast_pow]; rfl
  rw [e, ← hp]
  rw [← hp] at hpl
  omega

theorem combine_neg (x y : Int) (n : Int) (hn : n < 0) (w : World) :
    Calls Try.prog 34 #[.int .u32 x, .int .u32 y, .int .i64 n] w fun e w' => e = .returned (.int .u32 0) ∧ Below w.heap.size w w' := by
  go_enter Try.func34, Try.ntmps34
  have hz : decide (n < 0) = true := by simpa using hn
  go_wp2
  go_ret
  exact ⟨rfl, Below.refl _ _⟩

set_option maxHeartbeats 1000000 in
set_option maxRecDepth 100000 in
theorem combine_calls (x y n : Nat) (hx : x < 2 ^ 32) (hy : y < 2 ^ 32) (hn : n < 2 ^ 62) (w : World) :
    Calls Try.prog 34 #[.int .u32 x, .int .u32 y, .int .i64 n] w fun e w' => e = .returned (.int .u32 (Ck.sts (8 * n) x ^^^ y : Nat)) ∧ Below w.heap.size w w' := by
  go_enter Try.func34, Try.ntmps34
  have hz : decide ((n : Int) < 0) = false := by simp
  go_wp2
  generalize hW0 : w.alloc _ = W0
  have hb0 : Below w.heap.size w W0 := by rw [← hW0]; exact (Below.refl _ w).alloc (Nat.le_refl _) _
  have HB0 := Lib.hid hb0
  have hk0 : W0.heap[w.heap.size]? = some (.cells (Array.replicate 32 (.int .u32 0)) 86 (0, 0)) := by rw [← hW0]; exact blk_new _ _
  clear hb0 hW0
  generalize hg : w.heap.size = g at *
  go_loopg [11] 32 (fun kx s11 wr => ∃ (i : Nat) (xs : Array Value) (W : World), W = wr ∧ s11 = .int .i64 i ∧ i ≤ 32 ∧ 32 - i ≤ kx ∧ Below g w wr ∧ wr.heap[g]? = some (.cells xs 86 (0, 0)) ∧ xs.size = 32 ∧ ∀ j, j < i → xs[j]? = some (.int .u32 (Ck.sts 8 (2 ^ j))))
  case atStart => exact ⟨0, _, _, rfl, rfl, by omega, by omega, HB0.out, hk0, rfl, fun j hj => by omega⟩
  case round =>
    obtain ⟨i, xs, Wx, rfl, rfl, hi, hk, hb, hblk, hsz, hxs⟩ := hrel
    have HB := Lib.hid hb
    have HX := Lib.hid hxs
    have HKX := Lib.hid hblk
    clear hb hxs hblk
    by_cases hlt : i < 32
    · have hz : decide ((i : Int) < 32) = true := by simp; omega
      have h0 : (0 : Int) ≤ (i : Int) := by omega
      have hlt' : (i : Int) < 32 := by omega
      obtain ⟨old, hold⟩ : ∃ old, xs[i]? = some old := ⟨_, Array.getElem?_eq_getElem (by omega)⟩
      have hcell : ∀ q, (Wx.drewN q).cell? ⟨g, i, none⟩ = some old := fun q => (blk_cell (w := Wx.drewN q) HKX.out i).trans hold
      have hfr : Wx.frozen? ⟨g, i, none⟩ = false := blk_frozen HKX.out i
      have hpl : 2 ^ i < 2 ^ 32 := Nat.pow_lt_pow_right (by omega) hlt
      obtain ⟨p, hp⟩ : ∃ p : Nat, p = 2 ^ i := ⟨_, rfl⟩
      have hpi : (2 : Int) ^ i % 4294967296 = (p : Int) := two_pow_i hp hpl
      rw [← hp] at hpl
      have HP := Lib.hid hp
      clear hp
      go_wp2_with (go_at_call 65; (with_reducible refine (step8 p hpl _).mono ?_); rintro e w' ⟨rfl, nd, rfl⟩)
      go_roundg (32 - (i + 1))
      case measure => omega
      case rel =>
        refine ⟨i + 1, _, _, rfl, rfl, by omega, by omega, (below_drewN HB.out nd).setCell (Nat.le_refl _) _, blk_set (blk_drewN HKX.out nd) i _, by simp [hsz], fun j hj => ?_⟩
        rw [Array.getElem?_setIfInBounds]
        by_cases hij : i = j
        · subst hij; rw [if_pos rfl, if_pos (by omega), HP.out]
        · rw [if_neg hij]; exact HX.out j (by omega)
    · have hz : decide ((i : Int) < 32) = false := by simp; omega
      obtain rfl : i = 32 := by omega
      go_wp2
      have hm1 : Mat (8 * 2 ^ 0) xs := ⟨hsz, HX.out⟩
      have HM1 := Lib.hid hm1
      clear hm1
      go_loopg [0, 2] n (fun kx s0 s2 wr => ∃ (j : Nat) (xs : Array Value) (W : World), W = wr ∧ s0 = .int .u32 (Ck.sts (8 * (n % 2 ^ j)) x : Nat) ∧ s2 = .int .i64 (n / 2 ^ j : Nat) ∧ n / 2 ^ j ≤ kx ∧ Below g w wr ∧ wr.heap[g]? = some (.cells xs 86 (0, 0)) ∧ Mat (8 * 2 ^ j) xs)
      case atStart => exact ⟨0, _, _, rfl, by simp [Nat.mod_one, Ck.sts], by simp, by simp, HB.out, HKX.out, HM1.out⟩
      case round =>
        obtain ⟨j, xs, Wx, rfl, rfl, rfl, hk, hb, hblk, hmj⟩ := hrel
        have HB := Lib.hid hb
        have HKX := Lib.hid hblk
        have HM := Lib.hid hmj
        clear hb hblk hmj
        have hsp := Ck.mod_of_div_zero n j
        have hone := Ck.comb_one n j x
        have hzero := Ck.comb_zero n j x
        have hhalf := Ck.div_pow_succ n j
        have hsl : Ck.sts (8 * (n % 2 ^ j)) x < 2 ^ 32 := Ck.sts_lt _ _ hx
        have hle : n / 2 ^ j < 2 ^ 62 := Nat.lt_of_le_of_lt (Nat.div_le_self _ _) hn
        have hsp2 : n / 2 ^ j = 0 → Ck.sts (8 * (n % 2 ^ j)) x = Ck.sts (8 * n) x := fun h => by rw [hsp h]
        generalize n / 2 ^ j = u at *
        generalize Ck.sts (8 * (n % 2 ^ j)) x = v at *
        have hu0 : (0 : Int) ≤ (u : Int) := by omega
        by_cases hz0 : u = 0
        · subst hz0
          have he := hsp2 rfl
          subst he
          have hxor := xor_u32 hsl hy
          clear hone hzero hhalf hsp hsp2
          go_wp2
          go_ret
          exact ⟨rfl, by first | exact HB.out | (rw [hg]; exact HB.out)⟩
        · have hz : decide ((0 : Int) < (u : Int)) = true := by simp; omega
          have hz1 := Lib.hid hone
          have hz2 := Lib.hid hzero
          have hz3 := Lib.hid hhalf
          clear hone hzero hhalf hsp hsp2
          have hand := Go.Proofs.and_one u (by omega)
          by_cases ho : u % 2 = 1
          · have hd := bit_odd ho
            go_wp2_with (first
              | (go_at_call 68; (with_reducible refine (of_calls g (8 * 2 ^ j) xs v hsl _ HM.out HKX.out).mono ?_); rintro e w' ⟨rfl, nd, rfl⟩)
              | (go_at_call 69; (with_reducible refine (twice_calls g j xs _ HM.out (blk_drewN HKX.out _)).mono ?_); rintro e w' ⟨⟨cs', rfl, hm2⟩, hb2⟩; have HM2 := Lib.hid hm2; have HB2 := Lib.hid hb2; clear hm2 hb2; have HK2 := Lib.hid (blk_below (blk_drewN HKX.out _) HB2.out); have hsx : (Try.prog.info? 86).map (·.size) = some cs'.size := (by rw [HM2.out.1]; exact size86); have hso : xs.size = cs'.size := (by rw [HM2.out.1, HM.out.1]); have hone := Lib.hid (mat_one HM2.out))
              | ((with_reducible refine gate_store (t := 86) (p := 7) rfl ?_); refine wpList_store_row rfl 86 (.tmp 7) (.tmp 29) rfl g cs' rfl rfl 86 _ HK2.out hsx hso hone.out ?_))
            go_roundg (u / 2)
            case measure => omega
            case rel =>
              refine ⟨j + 1, cs', _, rfl, by rw [← hz1.out ho], by rw [hz3.out]; congr 1, by rw [hz3.out]; omega, setRow_below ((below_drewN HB.out nd).trans (HB2.out.mono ?_)) (Nat.le_refl _) _, setRow_heap _ _ _ _ _ _ HK2.out, HM2.out⟩
              exact Nat.le_of_lt (blk_lt (blk_drewN HKX.out nd))
          · have hd := bit_even ho
            go_wp2_with (first
              | (go_at_call 69; (with_reducible refine (twice_calls g j xs _ HM.out HKX.out).mono ?_); rintro e w' ⟨⟨cs', rfl, hm2⟩, hb2⟩; have HM2 := Lib.hid hm2; have HB2 := Lib.hid hb2; clear hm2 hb2; have HK2 := Lib.hid (blk_below HKX.out HB2.out); have hsx : (Try.prog.info? 86).map (·.size) = some cs'.size := (by rw [HM2.out.1]; exact size86); have hso : xs.size = cs'.size := (by rw [HM2.out.1, HM.out.1]); have hone := Lib.hid (mat_one HM2.out))
              | ((with_reducible refine gate_store (t := 86) (p := 7) rfl ?_); refine wpList_store_row rfl 86 (.tmp 7) (.tmp 29) rfl g cs' rfl rfl 86 _ HK2.out hsx hso hone.out ?_))
            go_roundg (u / 2)
            case measure => omega
            case rel =>
              refine ⟨j + 1, cs', _, rfl, by rw [← hz2.out (by omega)], by rw [hz3.out]; congr 1, by rw [hz3.out]; omega, setRow_below (HB.out.trans (HB2.out.mono ?_)) (Nat.le_refl _) _, setRow_heap _ _ _ _ _ _ HK2.out, HM2.out⟩
              exact Nat.le_of_lt (blk_lt HKX.out)

end Go.Proofs.Ytmeojlamadcedaa
