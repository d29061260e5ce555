/- bitio.PutUvarint; postings.List Seek, Rank, Encode; corporalaw17.awake.
   Conditions: those of the theorems. -/
import Derived.Test.YtmeojlamadcedaaPoP
import Derived.Laws.CopyOwn
import Derived.Laws.MakeOwn
import Derived.Test.YtmeojlamadcedaaSearch
import Derived.RegionTactic
import Derived.BigQuiet
import Derived.OwnWalk
import Derived.Test.YtmeojlamadcedaaCkU

namespace Go.Proofs.Ytmeojlamadcedaa
open Go.RowKit Go.Sort Go.Proofs.YtmeojlamadcedaaW.PrintWords

theorem byte_or : ∀ y : Fin 256, (y.val ||| 128) = y.val % 128 + 128 := by decide +kernel
theorem u8_or_high (y : Nat) (h : y < 256) : bits .or .u8 (y : Int) 128 = ((y % 128 + 128 : Nat) : Int) := by
  rw [show (128 : Int) = ((128 : Nat) : Int) from rfl, u8_or_nat _ _ h (by decide), byte_or ⟨y, h⟩]
theorem uvF_high (k x : Nat) (h : ¬ x < 128) : Po.uvF (k + 1) x = UInt8.ofNat (x % 128 + 128) :: Po.uvF k (x / 128) := by rw [Po.uvF, if_neg h]
theorem uvF_low (k x : Nat) (h : x < 128) : Po.uvF k x = [UInt8.ofNat x] := by
  cases k with
  | zero => rfl
  | succ k => rw [Po.uvF, if_pos h]
theorem u8_wrap_mod (x : Nat) : IntKind.u8.wrap (x : Int) = ((x % 256 : Nat) : Int) := by
  simp [IntKind.wrap, IntKind.bits, IntKind.signed]
theorem vals_snoc (l : List UInt8) (x : Nat) (h : x < 256) : vals (l ++ [UInt8.ofNat x]) = vals l ++ [.int .u8 (x : Nat)] := by
  unfold vals
  rw [List.map_append, List.map_singleton, UInt8.toNat_ofNat', Nat.mod_eq_of_lt h]
theorem vals_len (l : List UInt8) : (vals l).length = l.length := by simp [vals]
theorem one_u8 (x : Int) : ∀ u ∈ [Value.int .u8 x], u.oneCell' = true := fun u hu => by simp at hu; subst hu; rfl

set_option maxHeartbeats 4000000 in
set_option maxRecDepth 100000 in
theorem putU_calls (A : Option Addr) (c : Nat) (b : List UInt8) (x : Nat) (w : World) (hr : ReadsInt w .u8 A b.length (Given.ints b)) (hx : x < 18446744073709551616) (hb : b.length < 1000000000) :
    Calls Try.prog 71 #[.slice A b.length c, .int .u64 (x : Nat)] w fun e w' => ∃ v, e = .returned v ∧ w'.ownsRow w.heap.size 5 1 v (b ++ Po.uvar x).length (vals (b ++ Po.uvar x)) ∧ Below w.heap.size w w' := by
  obtain ⟨i, hi, hi1, hi2, hi3⟩ := info5
  obtain ⟨n, hn⟩ : ∃ n, b.length = n := ⟨_, rfl⟩
  have hmk := run_make (P := Try.prog) w 22 5 i (.int .u8 0) (show Try.prog.underlying 22 = some (.slice 5) by kernel_rfl) hi hi1 .i64 .i64 (n : Int) ((n : Int) + 10) (by omega) (by omega) (by rw [hi3]; omega) (by omega)
  have hmc : madeCells (Value.int .u8 0).cells (((n : Int) + 10).toNat * i.size) = (List.replicate (n + 10) (Value.int .u8 0)).toArray := by
    rw [hi2, show ((n : Int) + 10).toNat * 1 = n + 10 by omega]
    have h := toList_madeCells_one (.int .u8 0) (n + 10)
    rw [← h, Array.toArray_toList]; rfl
  rw [hmc, show ((n : Int) + 10).toNat = n + 10 by omega, show ((n : Int)).toNat = n by omega] at hmk
  have hw10 : Hid (RowKit.wrap64 ((n : Int) + 10) = (n : Int) + 10) := Lib.hid (wsmall' rfl (by omega) (by omega))
  have HRA : Hid (ReadsInt (w.alloc (.cells (List.replicate (n + 10) (Value.int .u8 0)).toArray 5)) .u8 A n (Given.ints b)) := Lib.hid (by rw [← hn]; exact hr.allocS _)
  have HVL : Hid ((vals b).length = n) := Lib.hid (by rw [vals_len, hn])
  have HN := Lib.hid hn
  have HSP : Hid (splice (List.replicate (n + 10) (Value.int .u8 0)) 0 (vals b) = vals b ++ List.replicate 10 (Value.int .u8 0)) := Lib.hid (by
    unfold splice
    rw [List.take_zero, List.nil_append, Nat.zero_add, HVL.out, List.drop_replicate, Nat.add_sub_cancel_left])
  have HP : Hid (0 < (vals b).length → (some ⟨w.heap.size, 0, none⟩ : Option Addr) = some ⟨w.heap.size, 0, none⟩ ∧ ∃ ad, A = some ad ∧ ∀ j v, (vals b)[j]? = some v → (w.alloc (.cells (List.replicate (n + 10) (Value.int .u8 0)).toArray 5)).cell? (ad.add j) = some v) := Lib.hid (fun h0 => by
    obtain ⟨ad, e, hc⟩ := HRA.out.2.2 (by rw [HVL.out] at h0; exact h0)
    refine ⟨rfl, ad, e, fun j v hj => ?_⟩
    have hjl : j < (vals b).length := (List.getElem?_eq_some_iff.mp hj).1
    rw [hc j (by rw [HVL.out] at hjl; exact hjl), ← hj, vals_nums]
    unfold nums
    rw [List.getElem?_map, List.getD_eq_getElem?_getD, List.getElem?_eq_getElem (by rw [Given.ints_len, ← vals_len]; exact hjl)]; rfl)
  have HMIN : Hid ((vals b).length = Nat.min n n) := Lib.hid (by rw [HVL.out]; exact (Nat.min_self n).symm)
  have HFIT : Hid (0 + (vals b).length ≤ (List.replicate (n + 10) (Value.int .u8 0)).length) := Lib.hid (by rw [HVL.out, List.length_replicate]; omega)
  have HBB := Lib.hid hb
  have hnn : (0 : Int) ≤ (n : Int) := by omega
  rw [hn]
  have hwk := hw10.out
  clear hr hn hmc hb hi hi1 hi2 hi3
  go_enter Try.func71, Try.ntmps71
  go_wp2_with (first
    | ((with_reducible refine gate_dst (N := 14) rfl ?_); refine wpList_copy_splice rfl (.tmp 12) (.tmp 13) 22 22 rfl 5 (show Try.prog.underlying 22 = some (.slice 5) by kernel_rfl) (by kernel_rfl) (some ⟨w.heap.size, 0, none⟩) A n (n + 10) n c rfl rfl w.heap.size 0 (List.replicate (n + 10) (Value.int .u8 0)) 5 (blk_new _ _) (vals b) HMIN.out HP.out HFIT.out (vals_one b) w.heap.size w ((Below.refl _ w).alloc (Nat.le_refl _) _) (Nat.le_refl _) ?_
       ; intro w1 hk1 hb1; have HK1 := hk1; have HB1 := Lib.hid hb1; clear hb1 hk1))
  have hst : Hid (w1.ownsRow w.heap.size 5 1 (.slice (some ⟨w.heap.size, 0, none⟩) n (n + 10)) (vals b).length (vals b)) := Lib.hid (by
    have hk := HK1.out
    rw [HSP.out] at hk
    refine ⟨(Nat.mul_one _).symm, .inr ⟨w.heap.size, n + 10, (vals b ++ List.replicate 10 (Value.int .u8 0)).toArray, by rw [HVL.out], Nat.le_refl _, hk, by rw [HVL.out]; omega, by have := HBB.out; have := HVL.out; have := HN.out; simp only [maxLen]; omega, by rw [List.size_toArray, List.length_append, HVL.out, List.length_replicate, Nat.mul_one], ?_⟩⟩
    rw [Nat.mul_one]
    exact List.take_left)
  clear hmk hwk
  go_loopg [1, 5] 10 (fun kx s1 s5 wr => ∃ (k x1 : Nat) (pre : List UInt8) (W : World), W = wr ∧ s1 = .int .u64 x1 ∧ k ≤ 9 ∧ k + 1 ≤ kx ∧ x1 < 2 ^ (7 * k + 1) ∧ pre.length ≤ 9 - k ∧ pre ++ Po.uvF k x1 = Po.uvar x ∧ wr.ownsRow w.heap.size 5 1 s5 (vals (b ++ pre)).length (vals (b ++ pre)) ∧ Below w.heap.size w wr)
  case atStart => exact ⟨9, x, [], _, rfl, rfl, by omega, by omega, hx, by simp, rfl, by rw [List.append_nil]; exact hst.out, HB1.out⟩
  case round =>
    obtain ⟨k, x1, pre, W, rfl, rfl, hk9, hkx, hxk, hpre, hpu, hown, hbel⟩ := hrel
    obtain ⟨oA, oC, rfl⟩ := own_slice hown
    have HOWN := Lib.hid hown
    have HBEL := Lib.hid hbel
    have HPU := Lib.hid hpu
    have HXK := Lib.hid hxk
    have h64 : 2 ^ (7 * k + 1) ≤ 2 ^ 64 := Nat.pow_le_pow_right (by omega) (by omega)
    have hx64 : x1 < 18446744073709551616 := Nat.lt_of_lt_of_le hxk h64
    have HX64 := Lib.hid hx64
    have HMX : Hid (((vals (b ++ pre)).length + 1) * 1 ≤ 140737488355328) := Lib.hid (by
      rw [vals_len, List.length_append, HN.out]; have := HBB.out; rw [HN.out] at this; omega)
    have hmod := u8_wrap_mod x1
    have hm256 : x1 % 256 < 256 := Nat.mod_lt _ (by omega)
    clear hown hbel hpu h64 hxk hx64 hst
    by_cases h128 : x1 < 128
    · have hz : decide ((128 : Int) ≤ (x1 : Int)) = false := by simp; omega
      have hlow := uvF_low k x1 h128
      have HRES : Hid (vals (b ++ pre) ++ [Value.int .u8 (x1 : Nat)] = vals (b ++ Po.uvar x)) := Lib.hid (by
        rw [← HPU.out, hlow, ← List.append_assoc, vals_snoc _ _ (by omega)])
      have hwx : IntKind.u8.wrap (x1 : Int) = (x1 : Int) := by rw [hmod]; omega
      clear hlow hmod hm256 hpre
      generalize vals (b ++ pre) = ns at *
      go_wp2_with (first
        | ((with_reducible refine gate_dst (N := 29) rfl ?_); refine print_append (w0 := w) (W := W) w.heap.size rfl (.tmp 25) (.tmp 28) 22 5 (.int .u8 0) 1 rfl (show Try.prog.underlying 22 = some (.slice 5) by kernel_rfl) (by kernel_rfl) rfl (by decide) (.slice oA ns.length oC) ns (.int .u8 (x1 : Nat)) rfl rfl rfl HOWN.out HBEL.out HBEL.out.size HMX.out ?_
           ; intro v2 w2 hown2 hb2 _ _; have HO2 := Lib.hid hown2; have HB2 := Lib.hid hb2; clear hown2 hb2))
      go_ret
      have h := HO2.out
      rw [HRES.out, vals_len] at h
      exact ⟨v2, rfl, h, HB2.out⟩
    · obtain ⟨k1, rfl⟩ : ∃ k1, k = k1 + 1 := by
        cases k with
        | zero => have := HXK.out; simp at this; omega
        | succ k => exact ⟨k, rfl⟩
      have hz : decide ((128 : Int) ≤ (x1 : Int)) = true := by simp; omega
      obtain ⟨x2, hx2⟩ : ∃ x2, x1 / 128 = x2 := ⟨_, rfl⟩
      have hdiv : (x1 : Int) / 128 = (x2 : Int) := by omega
      obtain ⟨y, hy⟩ : ∃ y, x1 % 256 = y := ⟨_, rfl⟩
      rw [hy] at hmod hm256
      have hor := u8_or_high y hm256
      obtain ⟨z, hzz⟩ : ∃ z, y % 128 + 128 = z := ⟨_, rfl⟩
      rw [hzz] at hor
      have HZ : Hid (z = x1 % 128 + 128 ∧ z < 256) := Lib.hid (by omega)
      have HNX : Hid (x2 < 2 ^ (7 * k1 + 1) ∧ (pre ++ [UInt8.ofNat z]) ++ Po.uvF k1 x2 = Po.uvar x ∧ vals (b ++ pre) ++ [Value.int .u8 (z : Nat)] = vals (b ++ (pre ++ [UInt8.ofNat z])) ∧ (pre ++ [UInt8.ofNat z]).length ≤ 9 - k1) := Lib.hid (by
        refine ⟨?_, ?_, ?_, ?_⟩
        · rw [← hx2]
          have h := HXK.out
          rw [show 7 * (k1 + 1) + 1 = (7 * k1 + 1) + 7 by omega, Nat.pow_add] at h
          exact Nat.div_lt_of_lt_mul (by rw [Nat.mul_comm]; exact h)
        · rw [← HPU.out, uvF_high k1 x1 h128, hx2, ← HZ.out.1, List.append_assoc]; rfl
        · rw [← List.append_assoc, vals_snoc _ _ HZ.out.2]
        · rw [List.length_append]; simp; omega)
      have HK9 : Hid (k1 + 1 ≤ 9 ∧ k1 + 1 + 1 ≤ gk) := Lib.hid ⟨hk9, hkx⟩
      clear hx2 hy hzz h128 hpre hk9 hkx
      generalize vals (b ++ pre) = ns at *
      go_wp2_with (first
        | ((with_reducible refine gate_dst (N := 22) rfl ?_); refine print_append (w0 := w) (W := W) w.heap.size rfl (.tmp 17) (.tmp 21) 22 5 (.int .u8 0) 1 rfl (show Try.prog.underlying 22 = some (.slice 5) by kernel_rfl) (by kernel_rfl) rfl (by decide) (.slice oA ns.length oC) ns (.int .u8 (z : Nat)) rfl rfl rfl HOWN.out HBEL.out HBEL.out.size HMX.out ?_
           ; intro v2 w2 hown2 hb2 _ _; have HO2 := Lib.hid hown2; have HB2 := Lib.hid hb2; clear hown2 hb2))
      go_roundg (k1 + 1)
      case measure => have := HK9.out; omega
      case rel =>
        have h := HO2.out
        rw [HNX.out.2.2.1] at h
        exact ⟨k1, x2, _, _, rfl, rfl, by have := HK9.out; omega, Nat.le_refl _, HNX.out.1, HNX.out.2.2.2, HNX.out.2.1, h, HB2.out⟩
end Go.Proofs.Ytmeojlamadcedaa

namespace Go.Proofs.Ytmeojlamadcedaa
set_option linter.unusedSimpArgs false
open Go.RowKit Go.Sort Go.Proofs.YtmeojlamadcedaaW.PrintWords Go.Proofs.YtmeojlamadcedaaW.PrintLast

set_option maxHeartbeats 1000000 in
theorem sk_closure (bl bp la sg cn sc i : Nat) (p y : Int) (W : World) (hi : i < cn)
    (h1 : W.cell? ⟨bl, 0, none⟩ = some (.pointer (some ⟨la, 0, none⟩))) (h2 : W.cell? ⟨bp, 0, none⟩ = some (.int .i64 p)) (h3 : W.cell? ⟨la, 3, none⟩ = some (.slice (some ⟨sg, 0, none⟩) cn sc))
    (h4 : W.cell? ⟨sg, i * 2, none⟩ = some (.int .i64 y)) :
    Calls Try.prog 79 (#[.int .i64 i] ++ #[.pointer (some ⟨bl, 0, none⟩), .pointer (some ⟨bp, 0, none⟩)]) W fun e w' => e = .returned (.bool (decide (p ≤ y))) ∧ ∃ q, w' = W.drewN q := by
  have hi0 : (0 : Int) ≤ (i : Int) := by omega
  have hic : (i : Int) < (cn : Int) := by omega
  clear hi
  go_enter Try.func79, Try.ntmps79
  go_wp2
  go_region
  all_goals go_wp2
  all_goals go_ret
  all_goals exact ⟨by first | rfl | simp, 1, rfl⟩

theorem own_some' {w : World} {base n : Nat} {e : TypeId} {size : Nat} {v : Value} {xs : List Value} (h : w.ownsRow base e size v n xs) (hn : 0 < n) : ∃ g cap, v = .slice (some ⟨g, 0, none⟩) n cap ∧ n ≤ cap := by
  rcases h.2 with ⟨_, h0⟩ | ⟨g, cap, cur, hv, _, _, hc, _⟩
  · omega
  · exact ⟨g, cap, hv, hc⟩

/-- What is known of a list in a later world. -/
structure Lk (l : List Int) (la sg sc : Nat) (W : World) : Prop where
  c3 : W.cell? ⟨la, 3, none⟩ = some (.slice (some ⟨sg, 0, none⟩) (Po.cnt l.length) sc)
  sk : ∀ j, j < Po.cnt l.length → W.cell? ⟨sg, j * 2, none⟩ = some (.int .i64 (l.getD (16 * j) 0))

theorem rk_sk (l : List Int) (p : Int) (a : Nat) (h : Po.Valid l) (ha : a < Po.cnt l.length) : decide (p ≤ l.getD (16 * a) 0) = decide (Po.cnt (Po.rk l p) ≤ a) := by
  have hc : Po.cnt l.length = (l.length + 15) / 16 := rfl
  have hr : Po.cnt (Po.rk l p) = (Po.rk l p + 15) / 16 := rfl
  rw [hr]
  have hle := Po.rk_le l p
  by_cases h1 : 16 * a < Po.rk l p
  · have h2 := Po.rk_lt l p (16 * a) h1
    rw [decide_eq_false (by omega), decide_eq_false (by omega)]
  · have h2 := Po.rk_ge l p (by omega)
    have h3 := Po.valid_le h (i := Po.rk l p) (j := 16 * a) (by omega) (by omega)
    rw [decide_eq_true (by omega), decide_eq_true (by omega)]

theorem sk_search (bl bp la sg sc : Nat) (l : List Int) (p : Int) (W : World) (hv : Po.Valid l) (hlen : l.length ≤ 4096)
    (h1 : W.cell? ⟨bl, 0, none⟩ = some (.pointer (some ⟨la, 0, none⟩))) (h2 : W.cell? ⟨bp, 0, none⟩ = some (.int .i64 p)) (h3 : Lk l la sg sc W) :
    Calls Try.prog 78 #[.int .i64 (Po.cnt l.length : Nat), .func (.func 79) #[] #[.pointer (some ⟨bl, 0, none⟩), .pointer (some ⟨bp, 0, none⟩)]] W fun e w' => e = .returned (.int .i64 (Po.cnt (Po.rk l p) : Nat)) ∧ ∃ q, w' = W.drewN q := by
  have eg : ∀ args w, (callFunc 79 args).run Try.prog w = .ok (.enter 79 args) w := enters_of Try.func79 (by kernel_rfl) rfl
  have hle := Po.rk_le l p
  have hc : Po.cnt l.length = (l.length + 15) / 16 := rfl
  have hr : Po.cnt (Po.rk l p) = (Po.rk l p + 15) / 16 := rfl
  exact search_any 79 #[.pointer (some ⟨bl, 0, none⟩), .pointer (some ⟨bp, 0, none⟩)] (Po.cnt l.length) (fun i => decide (p ≤ l.getD (16 * i) 0)) W (Po.cnt (Po.rk l p)) (by omega) eg (by omega)
    (fun q i hi => sk_closure bl bp la sg (Po.cnt l.length) sc i p _ (W.drewN q) hi h1 h2 h3.c3 (h3.sk i hi))
    (fun a ha => rk_sk l p a hv ha)
theorem sk_search0 (cb : Array Value) (W : World) :
    Calls Try.prog 78 #[.int .i64 ((0 : Nat) : Int), .func (.func 79) #[] cb] W fun e w' => e = .returned (.int .i64 ((0 : Nat) : Int)) ∧ ∃ q, w' = W.drewN q := by
  have eg : ∀ args w, (callFunc 79 args).run Try.prog w = .ok (.enter 79 args) w := enters_of Try.func79 (by kernel_rfl) rfl
  exact search_any 79 cb 0 (fun _ => true) W 0 (Nat.le_refl _) eg (by omega) (fun q i hi => by omega) (fun a ha => by omega)

/-- What Seek leaves behind. -/
def SeekPost (l : List Int) (p : Int) (w : World) (e : Ending) (w' : World) : Prop :=
  e = .returned (.tuple #[.int .i64 (Po.seekP l p), .int .i64 (Po.rk l p : Nat), .bool (decide (Po.rk l p < l.length))]) ∧ Below w.heap.size w w'

/-- The two captured variables' world, and the search in it. -/
abbrev W0 (w : World) (la : Nat) (p : Int) : World := (w.alloc (.cells #[.pointer (some ⟨la, 0, none⟩)] 39)).alloc (.cells #[.int .i64 p] 3)
theorem W0_below (w : World) (la : Nat) (p : Int) : Below w.heap.size w (W0 w la p) := ((Below.refl _ w).alloc (Nat.le_refl _) _).alloc (by simp) _
theorem W0_cells (w : World) (la : Nat) (p : Int) : (W0 w la p).cell? ⟨w.heap.size, 0, none⟩ = some (.pointer (some ⟨la, 0, none⟩)) ∧ (W0 w la p).cell? ⟨w.heap.size + 1, 0, none⟩ = some (.int .i64 p) := by
  constructor <;> simp [go_sem]
theorem seek_first (base la : Nat) (gv sv : Value) (l : List Int) (p : Int) (w : World) (hL : IsList base w la gv sv l) :
    Calls Try.prog 78 #[.int .i64 (Po.cnt l.length : Nat), .func (.func 79) #[] #[.pointer (some ⟨w.heap.size, 0, none⟩), .pointer (some ⟨w.heap.size + 1, 0, none⟩)]] (W0 w la p)
      fun e w' => e = .returned (.int .i64 (Po.cnt (Po.rk l p) : Nat)) ∧ Below w.heap.size w w' ∧ w'.cell? ⟨w.heap.size, 0, none⟩ = some (.pointer (some ⟨la, 0, none⟩)) ∧ w'.cell? ⟨w.heap.size + 1, 0, none⟩ = some (.int .i64 p) := by
  have hb := W0_below w la p
  obtain ⟨h1, h2⟩ := W0_cells w la p
  have fin : ∀ e w', (e = Ending.returned (.int .i64 (Po.cnt (Po.rk l p) : Nat)) ∧ ∃ q, w' = (W0 w la p).drewN q) → e = Ending.returned (.int .i64 (Po.cnt (Po.rk l p) : Nat)) ∧ Below w.heap.size w w' ∧ w'.cell? ⟨w.heap.size, 0, none⟩ = some (.pointer (some ⟨la, 0, none⟩)) ∧ w'.cell? ⟨w.heap.size + 1, 0, none⟩ = some (.int .i64 p) := by
    rintro e w' ⟨he, q, rfl⟩
    exact ⟨he, below_drewN hb q, h1, h2⟩
  rcases Nat.eq_zero_or_pos (Po.cnt l.length) with hz | hz
  · have hl : l.length = 0 := by unfold Po.cnt at hz; omega
    have hrk : Po.rk l p = 0 := by have := Po.rk_le l p; omega
    have hc0 : Po.cnt (Po.rk l p) = 0 := by rw [hrk]; rfl
    rw [hz]
    exact (sk_search0 _ _).mono fun e w' h => fin e w' (by rw [hc0]; exact h)
  · obtain ⟨sg, sc, rfl, -⟩ := own_some' hL.skips hz
    have hsl : sg < w.heap.size := (hL.skips.lt sg rfl).2
    refine (sk_search _ _ la sg sc l p _ hL.valid hL.len h1 h2 ⟨?_, fun j hj => ?_⟩).mono fin
    · exact (blk_cell (blk_below hL.blk hb) 3).trans rfl
    · have h := (skv_at l j (Po.cnt l.length) hj).1
      rw [Nat.mul_comm]
      exact ((hb.cell (p := ⟨sg, 2 * j, none⟩) hsl).trans (hL.skips.cellAt _ (by omega))).trans h

theorem part_len (l : List Int) (k : Nat) : (part l k).length = min 16 (l.length - 16 * k) := by unfold part; rw [List.length_take, List.length_drop]
theorem part_at (l : List Int) (k j : Nat) (h : j < (part l k).length) : (part l k).getD j 0 = l.getD (16 * k + j) 0 := by
  rw [part_len] at h
  unfold part
  rw [List.getD_eq_getElem?_getD, List.getElem?_take_of_lt (by omega), List.getElem?_drop, List.getD_eq_getElem?_getD]

set_option maxHeartbeats 4000000 in
set_option maxRecDepth 100000 in
theorem seek_calls (base la : Nat) (gv sv : Value) (l : List Int) (p : Int) (w : World) (hL : IsList base w la gv sv l) :
    Calls Try.prog 40 #[.pointer (some ⟨la, 0, none⟩), .int .i64 p] w fun e w' => SeekPost l p w e w' := by
  obtain ⟨sA, sC, rfl⟩ := own_slice hL.skips
  have hal : la < w.heap.size := blk_lt hL.blk
  have HL := Lib.hid hL
  have HF := Lib.hid (seek_first base la gv _ l p w hL)
  have c3a : ∀ o o2, ((w.alloc o).alloc o2).cell? ⟨la, 3, none⟩ = some (.slice sA (Po.cnt l.length) sC) := fun o o2 => (blk_cell (blk_alloc (blk_alloc hL.blk o) o2) 3).trans rfl
  have HC : Hid (∀ W, Below w.heap.size w W → W.cell? ⟨la, 3, none⟩ = some (.slice sA (Po.cnt l.length) sC) ∧ W.cell? ⟨la, 0, none⟩ = some (.int .i64 (l.length : Nat))) := Lib.hid (fun W hW => ⟨(blk_cell (blk_below hL.blk hW) 3).trans rfl, (blk_cell (blk_below hL.blk hW) 0).trans rfl⟩)
  have HLE := Lib.hid (Po.rk_le l p)
  have HLEN := Lib.hid hL.len
  obtain ⟨k, hk⟩ : ∃ k, Po.cnt (Po.rk l p) = k := ⟨_, rfl⟩
  rw [hk] at HF
  have HK := Lib.hid hk
  clear hL hk
  by_cases hk0 : k = 0
  · have hkp : decide ((0 : Int) < (k : Int)) = false := by simp; omega
    have hkp2 : decide (0 < k) = false := by simp; omega
    have hrk0 : Po.rk l p = 0 := by have h := HK.out; unfold Po.cnt at h; omega
    have hcn : Po.cnt l.length = (l.length + 15) / 16 := rfl
    by_cases hz : 0 < Po.cnt l.length
    · obtain ⟨sg, sc, e, -⟩ := own_some' HL.out.skips hz
      simp only [Value.slice.injEq] at e
      obtain ⟨rfl, -, rfl⟩ := e
      have hsl : sg < w.heap.size := (HL.out.skips.lt sg rfl).2
      obtain ⟨x, hx⟩ : ∃ x, l.getD 0 0 = x := ⟨_, rfl⟩
      have HCO : Hid (∀ W, Below w.heap.size w W → W.cell? ⟨sg, 0, none⟩ = some (.int .i64 x)) := Lib.hid (fun W hW => by
        have h := (skv_at l 0 (Po.cnt l.length) hz).1
        rw [← hx]
        exact ((hW.cell (p := ⟨sg, 2 * 0, none⟩) hsl).trans (HL.out.skips.cellAt _ (by omega))).trans h)
      have HRES : Hid (Po.seekP l p = x ∧ Po.rk l p = 0 ∧ Po.rk l p < l.length) := Lib.hid ⟨by unfold Po.seekP; rw [hrk0]; exact hx, hrk0, by omega⟩
      have hkc : (0 : Int) < (Po.cnt l.length : Nat) := by omega
      clear hx hrk0 hcn
      subst hk0
      go_enter Try.func40, Try.ntmps40
      go_wp2_with (go_at_call 78; (with_reducible refine HF.out.mono ?_); rintro e w3 ⟨rfl, hb3, cbl, cbp⟩; have HB3 := Lib.hid hb3; have cx := HCO.out _ hb3; obtain ⟨c3, c0⟩ := HC.out _ hb3; clear hb3)
      go_ret3
      refine ⟨?_, HB3.out⟩
      rw [HRES.out.1, decide_eq_true HRES.out.2.2, HRES.out.2.1]; rfl
    · have hl0 : l.length = 0 := by omega
      have HRES : Hid (Po.seekP l p = 0 ∧ Po.rk l p = l.length ∧ ¬ Po.rk l p < l.length) := Lib.hid ⟨by unfold Po.seekP; rw [hrk0, List.getD_eq_getElem?_getD, List.getElem?_eq_none (by omega)]; rfl, by omega, by omega⟩
      have hnz : Po.cnt l.length ≤ 0 := by omega
      have hnz2 : Po.cnt l.length = 0 := by omega
      clear hrk0 hcn hl0
      subst hk0
      have HF0 : Hid (Calls Try.prog 78 #[.int .i64 0, .func (.func 79) #[] #[.pointer (some ⟨w.heap.size, 0, none⟩), .pointer (some ⟨w.heap.size + 1, 0, none⟩)]] (W0 w la p)
          fun e w' => e = .returned (.int .i64 0) ∧ Below w.heap.size w w' ∧ w'.cell? ⟨w.heap.size, 0, none⟩ = some (.pointer (some ⟨la, 0, none⟩)) ∧ w'.cell? ⟨w.heap.size + 1, 0, none⟩ = some (.int .i64 p)) := Lib.hid (by
        have h := HF.out
        rw [hnz2] at h
        exact h)
      go_enter Try.func40, Try.ntmps40
      go_wp2_with (go_at_call 78; (with_reducible refine HF0.out.mono ?_); rintro e w3 ⟨rfl, hb3, cbl, cbp⟩; have HB3 := Lib.hid hb3; obtain ⟨c3, c0⟩ := HC.out _ hb3; clear hb3)
      go_region
      all_goals go_wp2
      all_goals go_ret3
      all_goals refine ⟨?_, HB3.out.drew⟩
      all_goals rw [HRES.out.1, decide_eq_false HRES.out.2.2, HRES.out.2.1]
      all_goals rfl
  · have hkp : decide ((k : Int) > 0) = true := by simp; omega
    have hkp2 : decide ((0 : Int) < (k : Int)) = true := by simp; omega
    obtain ⟨k1, hk1⟩ : ∃ k1, k = k1 + 1 := ⟨k - 1, by omega⟩
    have HWK : Hid (RowKit.wrap64 ((k : Int) - 1) = (k1 : Int)) := Lib.hid (wsmall' (by omega) (by omega) (by have := HLEN.out; have := HLE.out; have h := HK.out; unfold Po.cnt at h; omega))
    have HKK : Hid ((k : Int) - 1 = (k1 : Int)) := Lib.hid (by omega)
    have HK1 := Lib.hid hk1
    clear hk1 hk0
    have HWK2 : Hid (RowKit.wrap64 (k1 : Int) = (k1 : Int)) := Lib.hid (wsmall' rfl (by omega) (by have := HLEN.out; have := HLE.out; have h := HK.out; have := HK1.out; unfold Po.cnt at h; omega))
    have HPK : Hid (k1 < Po.cnt l.length) := Lib.hid (by have := HLE.out; have h := HK.out; have := HK1.out; unfold Po.cnt at h ⊢; omega)
    have HM0 : Hid (0 < (part l k1).length) := Lib.hid (by rw [part_len]; have := HPK.out; unfold Po.cnt at this; omega)
    have hwk := HWK.out
    have hkk := HKK.out
    have hwk2 := HWK2.out
    go_enter Try.func40, Try.ntmps40
    go_wp2_with (first
      | (go_at_call 78; (with_reducible refine HF.out.mono ?_); rintro e w3 ⟨rfl, hb3, cbl, cbp⟩; have HB3 := Lib.hid hb3; have CBP := Lib.hid cbp; have CBL := Lib.hid cbl; obtain ⟨c3, c0⟩ := HC.out _ hb3; have HP := Lib.hid (part_calls base la gv _ l k1 w3 (HL.out.later hb3) HPK.out); clear hb3)
      | (go_at_call 80; (with_reducible refine HP.out.mono ?_); rintro e w4 ⟨pv, rfl, hown4, hb4⟩; have HB4 := Lib.hid hb4; obtain ⟨og, oc, rfl, -⟩ := own_some hown4 HM0.out; have HO4 := Lib.hid hown4; have cbp4 := cell_later hb4 CBP.out; have cbl4 := cell_later hb4 CBL.out; clear hown4 hb4 cbl cbp c3 c0))
    have HBW : Hid (Below w.heap.size w w4) := Lib.hid (HB3.out.trans (HB4.out.mono HB3.out.size))
    obtain ⟨c3, c0⟩ := HC.out _ HBW.out
    obtain ⟨m, hm⟩ : ∃ m, (part l k1).length = m := ⟨_, rfl⟩
    have HM := Lib.hid hm
    rw [hm] at HO4
    rw [hm]
    have HML := Lib.hid (part_len l k1)
    clear hm HM0 c3a
    go_loopg [24] m (fun kx s24 wr => ∃ j : Nat, w4 = wr ∧ s24 = .int .i64 j ∧ j ≤ m ∧ m - j ≤ kx ∧ 16 * k1 + j ≤ Po.rk l p)
    case atStart => exact ⟨0, rfl, rfl, Nat.zero_le _, by omega, by have h := HK.out; have := HK1.out; unfold Po.cnt at h; omega⟩
    case round =>
      obtain ⟨j, rfl, rfl, hj, hkx, hrk⟩ := hrel
      by_cases hjm : j < m
      · have hz1 : decide ((j : Int) < (m : Int)) = true := by simp; omega
        have hj0 : (0 : Int) ≤ (j : Int) := by omega
        have hjI : (j : Int) < (m : Int) := by omega
        have hidx : 16 * k1 + j < l.length := by have h1 := HM.out; have h2 := HML.out; omega
        obtain ⟨x, hx⟩ : ∃ x, l.getD (16 * k1 + j) 0 = x := ⟨_, rfl⟩
        have co : w4.cell? ⟨og, j, none⟩ = some (.int .i64 x) := by
          rw [HO4.out.cellAt j (by omega)]
          have h := part_at l k1 j (by rw [HM.out]; exact hjm)
          rw [hx] at h
          unfold nums
          rw [List.getElem?_map, ← h, List.getD_eq_getElem?_getD, List.getElem?_eq_getElem (by rw [HM.out]; exact hjm)]; rfl
        by_cases hpx : p ≤ x
        · have hz2 : decide (p ≤ x) = true := decide_eq_true hpx
          have hrke : Po.rk l p = 16 * k1 + j := by
            rcases Nat.lt_or_ge (16 * k1 + j) (Po.rk l p) with h | h
            · have := Po.rk_lt l p _ h; rw [hx] at this; omega
            · omega
          have HRES : Hid (Po.seekP l p = x ∧ (Po.rk l p : Int) = (k1 : Int) * 16 + (j : Int) ∧ Po.rk l p < l.length) := Lib.hid ⟨by unfold Po.seekP; rw [hrke]; exact hx, by omega, by omega⟩
          have hb := HLEN.out
          have HA1 : Hid (RowKit.wrap64 ((k1 : Int) * 16) = (k1 : Int) * 16) := Lib.hid (by clear hwk hwk2; exact wsmall' rfl (by omega) (by omega))
          have HA2 : Hid (RowKit.wrap64 ((k1 : Int) * 16 + (j : Int)) = (k1 : Int) * 16 + (j : Int)) := Lib.hid (by clear hwk hwk2; exact wsmall' rfl (by omega) (by omega))
          have HR2 : Hid ((Po.rk l p : Int) = RowKit.wrap64 ((k1 : Int) * 16 + (j : Int))) := Lib.hid (HRES.out.2.1.trans HA2.out.symm)
          clear hrke hb hidx hkx hrk hx hjm hj
          have ha1 := HA1.out
          go_wp2
          go_ret3
          refine ⟨?_, HBW.out⟩
          rw [HRES.out.1, HR2.out, decide_eq_true HRES.out.2.2]; rfl
        · have hz2 : decide (p ≤ x) = false := decide_eq_false hpx
          have hnx : 16 * k1 + (j + 1) ≤ Po.rk l p := by
            rcases Nat.lt_or_ge (16 * k1 + j) (Po.rk l p) with h | h
            · omega
            · have he : Po.rk l p = 16 * k1 + j := by omega
              have h2 := Po.rk_ge l p (by omega)
              rw [he, hx] at h2
              exact absurd h2 hpx
          have HNX := Lib.hid hnx
          have HWJ : Hid (RowKit.wrap64 ((j : Int) + 1) = (j : Int) + 1) := Lib.hid (by have := HLEN.out; clear hwk hwk2; exact wsmall' rfl (by omega) (by omega))
          have HJM := Lib.hid hjm
          have HKX := Lib.hid hkx
          clear hnx hx hidx hrk
          have hwj := HWJ.out
          go_wp2
          go_roundg (m - (j + 1))
          case measure => clear hwk hwk2 hwj; omega
          case rel => exact ⟨j + 1, rfl, congrArg (Value.int .i64) (by first | exact HWJ.out.trans (Int.natCast_succ j).symm | exact (Int.natCast_succ j).symm), HJM.out, Nat.le_refl _, HNX.out⟩
      · have hz1 : decide ((j : Int) < (m : Int)) = false := by simp; omega
        obtain rfl : j = m := by omega
        have hml : j = min 16 (l.length - 16 * k1) := by rw [← HM.out]; exact HML.out
        have hkc := HK.out
        have hk11 := HK1.out
        have hle := HLE.out
        unfold Po.cnt at hkc
        by_cases hlast : k < Po.cnt l.length
        · have hz3 : decide ((k : Int) < (Po.cnt l.length : Nat)) = true := by simp; omega
          have hcn : Po.cnt l.length = (l.length + 15) / 16 := rfl
          have hrke : Po.rk l p = 16 * k := by omega
          obtain ⟨sg, sc, e, -⟩ := own_some' HL.out.skips (by omega)
          simp only [Value.slice.injEq] at e
          obtain ⟨rfl, -, rfl⟩ := e
          have hsl : sg < w.heap.size := (HL.out.skips.lt sg rfl).2
          obtain ⟨x, hx⟩ : ∃ x, l.getD (16 * k) 0 = x := ⟨_, rfl⟩
          have co : w4.cell? ⟨sg, k * 2, none⟩ = some (.int .i64 x) := by
            have h := (skv_at l k (Po.cnt l.length) hlast).1
            rw [Nat.mul_comm, ← hx]
            exact ((HBW.out.cell (p := ⟨sg, 2 * k, none⟩) hsl).trans (HL.out.skips.cellAt _ (by omega))).trans h
          have HRES : Hid (Po.seekP l p = x ∧ (Po.rk l p : Int) = (k : Int) * 16 ∧ Po.rk l p < l.length) := Lib.hid ⟨by unfold Po.seekP; rw [hrke]; exact hx, by omega, by omega⟩
          have hb := HLEN.out
          have HA1 : Hid (RowKit.wrap64 ((k : Int) * 16) = (k : Int) * 16) := Lib.hid (by clear hwk hwk2; exact wsmall' rfl (by omega) (by omega))
          have hkI : (k : Int) < (Po.cnt l.length : Nat) := by omega
          have hk0I : (0 : Int) ≤ (k : Int) := by omega
          have HR2 : Hid ((Po.rk l p : Int) = RowKit.wrap64 ((k : Int) * 16)) := Lib.hid (HRES.out.2.1.trans HA1.out.symm)
          clear hrke hb hcn hkc hk11 hle hml hrk hkx hx hlast hj hjm
          go_wp2
          go_ret3
          refine ⟨?_, HBW.out⟩
          rw [HRES.out.1, HR2.out, decide_eq_true HRES.out.2.2]; rfl
        · have hz3 : decide ((k : Int) < (Po.cnt l.length : Nat)) = false := by simp; omega
          have hcn : Po.cnt l.length = (l.length + 15) / 16 := rfl
          have hrke : Po.rk l p = l.length := by omega
          have HRES : Hid (Po.seekP l p = 0 ∧ (Po.rk l p : Int) = (l.length : Int) ∧ ¬ Po.rk l p < l.length) := Lib.hid ⟨by unfold Po.seekP; rw [hrke, List.getD_eq_getElem?_getD, List.getElem?_eq_none (Nat.le_refl _)]; rfl, by omega, by omega⟩
          clear hrke hcn hkc hk11 hle hml hrk hkx hj hjm
          have hnl : Po.cnt l.length ≤ k := by omega
          go_wp2
          go_region
          all_goals go_wp2
          all_goals go_ret3
          all_goals refine ⟨?_, HBW.out.drew⟩
          all_goals rw [HRES.out.1, HRES.out.2.1, decide_eq_false HRES.out.2.2]
          all_goals rfl
set_option maxHeartbeats 2000000 in
set_option maxRecDepth 100000 in
theorem rank_calls (base la : Nat) (gv sv : Value) (l : List Int) (p : Int) (w : World) (hL : IsList base w la gv sv l) :
    Calls Try.prog 61 #[.pointer (some ⟨la, 0, none⟩), .int .i64 p] w fun e w' => e = .returned (.int .i64 (Po.rk l p : Nat)) ∧ Below w.heap.size w w' := by
  have H := Lib.hid (seek_calls base la gv sv l p w hL)
  clear hL
  go_enter Try.func61, Try.ntmps61
  go_wp2_with (go_at_call 40; (with_reducible refine H.out.mono ?_); rintro e w' ⟨rfl, hb⟩; have HB := Lib.hid hb; clear hb)
  go_ret
  exact ⟨rfl, HB.out⟩

end Go.Proofs.Ytmeojlamadcedaa

namespace Go.Proofs.Ytmeojlamadcedaa
set_option linter.unusedSimpArgs false
open Go.RowKit Go.Sort Go.Proofs.YtmeojlamadcedaaW.PrintWords Go.Proofs.YtmeojlamadcedaaW.PrintLast

theorem ownB {w : World} {base n : Nat} {v : Value} {l : List UInt8} (h : w.ownsRow base 5 1 v n (vals l)) : n = l.length := by have := h.1; rw [vals_len] at this; omega
theorem entry_small {l : List Int} (h : Po.Valid l) (k : Nat) (hk : 16 * (k + 1) < l.length) :
    ∃ d : Nat, l.getD (16 * (k + 1)) 0 - l.getD (16 * k) 0 = (d : Int) ∧ (l.getD (16 * (k + 1)) 0 - l.getD (16 * k) 0).toNat = d ∧ d < 4294967296 := by
  have h1 := Po.valid_lt h (16 * k) (16 * (k + 1)) (by omega) hk
  have h2 := h (16 * (k + 1)) hk
  have h3 := h (16 * k) (by omega)
  exact ⟨(l.getD (16 * (k + 1)) 0 - l.getD (16 * k) 0).toNat, by omega, rfl, by have := h2.2.1; have := h3.1; omega⟩

/-- What the encoding begins with, ahead of the skip table. -/
def hd (l : List Int) : List UInt8 := Po.uvar l.length ++ Po.uvar (Po.bits l l.length).length ++ Po.pack (Po.bits l l.length)

set_option maxHeartbeats 4000000 in
set_option maxRecDepth 100000 in
theorem encode_calls (base la : Nat) (gv sv : Value) (l : List Int) (w : World) (hL : IsList base w la gv sv l) :
    Calls Try.prog 37 #[.pointer (some ⟨la, 0, none⟩)] w fun e w' => ∃ v, e = .returned v ∧ w'.ownsRow w.heap.size 5 1 v (Po.Enc l).length (vals (Po.Enc l)) ∧ Below w.heap.size w w' := by
  obtain ⟨gA, gC, rfl⟩ := own_slice hL.gaps
  obtain ⟨sA, sc, rfl⟩ := own_slice hL.skips
  have hbl := Po.bits_len_le hL.valid l.length (Nat.le_refl _)
  have hlen := hL.len
  have hpl := Po.pack_len (Po.bits l l.length)
  have hu1 := Po.uvar_len l.length
  have hu2 := Po.uvar_len (Po.bits l l.length).length
  have HL := Lib.hid hL
  obtain ⟨bn, hbn⟩ : ∃ bn, (Po.bits l l.length).length = bn := ⟨_, rfl⟩
  obtain ⟨pk, hpk⟩ : ∃ pk, Po.pack (Po.bits l l.length) = pk := ⟨_, rfl⟩
  obtain ⟨n, hn⟩ : ∃ n, l.length = n := ⟨_, rfl⟩
  have hblk := hL.blk
  rw [hpk, hbn, hn] at hblk
  have HBLK := Lib.hid hblk
  have HC : Hid (∀ W, Below w.heap.size w W → W.heap[la]? = some (.cells #[.int .i64 (n : Nat), .int .i64 (bn : Nat), .slice gA pk.length gC, .slice sA (Po.cnt n) sc] 92 (0, 0))) := Lib.hid (fun W hW => blk_below hblk hW)
  have HG : Hid (∀ W, Below w.heap.size w W → ReadsInt W .u8 gA pk.length (Given.ints pk)) := Lib.hid (fun W hW => by
    have h := own_reads8 (own_later hL.gaps hW)
    rw [hpk] at h; exact h)
  have hhd : hd l = Po.uvar n ++ Po.uvar bn ++ pk := by unfold hd; rw [hpk, hbn, hn]
  have HHD := Lib.hid hhd
  rw [hpk] at hpl
  rw [hbn] at hpl
  rw [hbn, hn] at hbl
  rw [hn] at hlen hu1
  rw [hbn] at hu2
  have c0 : w.cell? ⟨la, 0, none⟩ = some (.int .i64 (n : Nat)) := (blk_cell hblk 0).trans rfl
  have hwn : IntKind.u64.wrap (n : Int) = (n : Int) := by simp [IntKind.wrap, IntKind.bits, IntKind.signed]; omega
  have hwb : IntKind.u64.wrap (bn : Int) = (bn : Int) := by simp [IntKind.wrap, IntKind.bits, IntKind.signed]; omega
  have HP1 : Hid (Calls Try.prog 71 #[.slice none 0 0, .int .u64 (n : Nat)] w fun e w' => ∃ v, e = .returned v ∧ w'.ownsRow w.heap.size 5 1 v (Po.uvar n).length (vals (Po.uvar n)) ∧ Below w.heap.size w w') := Lib.hid (putU_calls none 0 [] n w (ReadsInt.nil w .u8) (by omega) (by simp))
  have HLN : Hid (n ≤ 4096 ∧ bn ≤ 42 * n ∧ pk.length = (bn + 7) / 8 ∧ (Po.uvar n).length ≤ 10 ∧ (Po.uvar bn).length ≤ 10) := Lib.hid ⟨hlen, hbl, hpl, hu1.2, hu2.2⟩
  obtain ⟨u1, hu1e⟩ : ∃ u, Po.uvar n = u := ⟨_, rfl⟩
  obtain ⟨u2, hu2e⟩ : ∃ u, u1 ++ Po.uvar bn = u := ⟨_, rfl⟩
  rw [hu1e] at HP1 HHD HLN
  rw [hu2e] at HHD
  have HU2 := Lib.hid hu2e
  have HUL : Hid (u2.length ≤ 20) := Lib.hid (by rw [← hu2e, List.length_append]; have := HLN.out; omega)
  have HNE := Lib.hid hn
  have HBE := Lib.hid hbn
  clear hL hblk hhd hbl hpl hu1 hu2 hn hbn hpk hlen hu1e hu2e
  go_enter Try.func37, Try.ntmps37
  go_wp2_with (first
    | (go_at_call_of 71 (Value.slice none 0 0); (with_reducible refine HP1.out.mono ?_); rintro e w1 ⟨v1, rfl, ho1, hb1⟩
       ; obtain ⟨A1, C1, rfl⟩ := own_slice ho1
       ; have HO1 := Lib.hid ho1; have HB1 := Lib.hid hb1
       ; have d1 : w1.cell? ⟨la, 1, none⟩ = some (.int .i64 (bn : Nat)) := (blk_cell (HC.out _ hb1) 1).trans rfl
       ; have HP2 : Hid (Calls Try.prog 71 #[.slice A1 u1.length C1, .int .u64 (bn : Nat)] w1 fun e w' => ∃ v, e = .returned v ∧ w'.ownsRow w1.heap.size 5 1 v u2.length (vals u2) ∧ Below w1.heap.size w1 w') := Lib.hid (by rw [← HU2.out]; exact putU_calls A1 C1 u1 bn w1 (own_reads8 ho1) (by have := HLN.out; omega) (by have := HLN.out; omega))
       ; clear ho1 hb1)
    | (go_at_call 71; (with_reducible refine HP2.out.mono ?_); rintro e w2 ⟨v2, rfl, ho2, hb2⟩
       ; obtain ⟨A2, C2, rfl⟩ := own_slice ho2
       ; have hbw2 := HB1.out.trans (hb2.mono HB1.out.size)
       ; have HB2 := Lib.hid hbw2
       ; have HO2 := Lib.hid (own_vals (own_less ho2 HB1.out.size))
       ; have d2 : w2.cell? ⟨la, 2, none⟩ = some (.slice gA pk.length gC) := (blk_cell (HC.out _ hbw2) 2).trans rfl
       ; have HM2 : Hid (((Given.ints u2).length + pk.length) * 1 ≤ 140737488355328) := Lib.hid (by rw [Given.ints_len]; have := HLN.out; have := HUL.out; omega)
       ; clear ho2 hb2 hbw2)
    | ((with_reducible refine gate_dst (N := 23) rfl ?_); refine print_append_row (w0 := w) (W := w2) w.heap.size rfl (.tmp 18) (.tmp 22) 22 5 .u8 1 rfl (show Try.prog.underlying 22 = some (.slice 5) by kernel_rfl) (by kernel_rfl) (by decide) (.slice A2 u2.length C2) (Given.ints u2) (Given.ints pk) gA pk.length gC rfl rfl HO2.out (HG.out _ HB2.out) HB2.out HB2.out.size HM2.out ?_
       ; intro v3 w3 hown3 hb3 _ _; have HO3 := Lib.hid hown3; have HB3 := Lib.hid hb3; clear hown3 hb3))
  obtain ⟨h0, hh0⟩ : ∃ h, u2 ++ pk = h := ⟨_, rfl⟩
  have HH0 : Hid (hd l = h0 ∧ h0.length ≤ 40000) := Lib.hid ⟨by rw [HHD.out]; exact hh0, by rw [← hh0, List.length_append]; have := HLN.out; have := HUL.out; omega⟩
  have HST : Hid (w3.ownsRow w.heap.size 5 1 v3 h0.length (vals h0)) := Lib.hid (by
    have h := HO3.out
    rw [show Given.ints u2 ++ Given.ints pk = Given.ints (u2 ++ pk) from List.map_append.symm, hh0] at h
    exact vals_own rfl h)
  have HCN : Hid (Po.cnt n = (n + 15) / 16) := Lib.hid rfl
  obtain ⟨cn, hcn⟩ : ∃ cn, Po.cnt n = cn := ⟨_, rfl⟩
  rw [hcn] at HCN HC
  have HCNE := Lib.hid hcn
  clear hh0 HO3 HO2 HG HP1 HP2 hcn
  go_loopg [3, 4] 300 (fun kx s3 s4 wr => ∃ (k1 : Nat) (bs : List UInt8) (W : World), W = wr ∧ s4 = .int .i64 ((k1 : Int) + 1) ∧ k1 ≤ 300 ∧ 300 - k1 ≤ kx ∧ (k1 + 1 ≤ cn ∨ k1 = 0) ∧ bs = h0 ++ Po.entries l k1 ∧ wr.ownsRow w.heap.size 5 1 s3 bs.length (vals bs) ∧ Below w.heap.size w wr)
  case atStart => exact ⟨0, h0, _, rfl, rfl, by omega, by omega, .inr rfl, by rw [Po.entries, List.append_nil], HST.out, HB3.out⟩
  case round =>
    obtain ⟨k1, bs, W, rfl, rfl, hk3, hkx, hkc, hbs, hown, hbel⟩ := hrel
    obtain ⟨oA, oC, rfl⟩ := own_slice hown
    have HOWN := Lib.hid hown
    have HBD := Lib.hid hbel
    have HBS := Lib.hid hbs
    have HENT : Hid (bs.length < 100000) := Lib.hid (by
      have h1 := Po.entries_len l k1
      have h2 := HH0.out.2
      have h3 := congrArg List.length hbs
      rw [List.length_append] at h3; omega)
    have d3 : W.cell? ⟨la, 3, none⟩ = some (.slice sA cn sc) := (blk_cell (HC.out _ hbel) 3).trans rfl
    clear hown hbel hbs
    by_cases hlt : k1 + 1 < cn
    · obtain ⟨k, hk⟩ : ∃ k, k1 + 1 = k := ⟨_, rfl⟩
      have hkI : (k1 : Int) + 1 = (k : Int) := by omega
      rw [hkI]
      have hzk : decide ((k : Int) < (cn : Int)) = true := by simp; omega
      have hzk2 : k < cn := by omega
      have hk16 : 16 * (k1 + 1) < l.length := by have h1 := HCN.out; have h2 := HNE.out; omega
      obtain ⟨d1, hd1, hd1n, hd1s⟩ := entry_small HL.out.valid k1 hk16
      have hmono := Po.bits_len_mono l (16 * k1) (16 * (k1 + 1)) (by omega)
      have hmono2 := Po.bits_len_mono l (16 * (k1 + 1)) l.length (by omega)
      have hbs2 : (Po.bits l l.length).length ≤ 1000000 := by have h1 := HBE.out; have h2 := HLN.out; omega
      obtain ⟨qa, hqa⟩ : ∃ q, (Po.bits l (16 * (k1 + 1))).length = q := ⟨_, rfl⟩
      obtain ⟨qb, hqb⟩ : ∃ q, (Po.bits l (16 * k1)).length = q := ⟨_, rfl⟩
      obtain ⟨d2, hd2⟩ : ∃ d, qa - qb = d := ⟨_, rfl⟩
      have HEN : Hid (Po.entry l k1 = Po.uvar d1 ++ Po.uvar d2) := Lib.hid (by unfold Po.entry; rw [hd1n, hqa, hqb, hd2])
      rw [hqa, hqb] at hmono
      rw [hqa] at hmono2
      have hq2 : Hid (RowKit.wrap64 ((qa : Int) - (qb : Int)) = (d2 : Int)) := Lib.hid (wsmall' (by omega) (by omega) (by omega))
      obtain ⟨pa, hpa⟩ : ∃ p, l.getD (16 * (k1 + 1)) 0 = p := ⟨_, rfl⟩
      obtain ⟨pb, hpb⟩ : ∃ p, l.getD (16 * k1) 0 = p := ⟨_, rfl⟩
      rw [hpa, hpb] at hd1
      have hq1 : Hid (RowKit.wrap64 (pa - pb) = (d1 : Int)) := Lib.hid (wsmall' hd1 (by omega) (by omega))
      have hq3 : Hid (RowKit.wrap64 ((k : Int) - 1) = (k1 : Int)) := Lib.hid (wsmall' (by omega) (by omega) (by omega))
      have hq4 : Hid (IntKind.u64.wrap (d1 : Int) = (d1 : Int)) := Lib.hid (by simp [IntKind.wrap, IntKind.bits, IntKind.signed]; omega)
      have hq5 : Hid (IntKind.u64.wrap (d2 : Int) = (d2 : Int)) := Lib.hid (by simp [IntKind.wrap, IntKind.bits, IntKind.signed]; omega)
      have hd1b : d1 < 18446744073709551616 := by omega
      have hd2b : d2 < 18446744073709551616 := by omega
      have hk0 : (0 : Int) ≤ (k : Int) := by omega
      have hk10 : (0 : Int) ≤ (k1 : Int) := by omega
      have hkc1 : (k : Int) < (cn : Int) := by omega
      have hk1c : (k1 : Int) < (cn : Int) := by omega
      obtain ⟨sg, sc', e, -⟩ := own_some' HL.out.skips (by rw [HNE.out, HCNE.out]; omega)
      simp only [Value.slice.injEq] at e
      obtain ⟨rfl, -, rfl⟩ := e
      have hsl : sg < w.heap.size := (HL.out.skips.lt sg rfl).2
      have hcnl : Po.cnt l.length = cn := by rw [HNE.out, HCNE.out]
      have hska := skv_at l (k1 + 1) (Po.cnt l.length) (by rw [hcnl]; omega)
      have hskb := skv_at l k1 (Po.cnt l.length) (by rw [hcnl]; omega)
      have HSK : Hid (∀ W, Below w.heap.size w W → (W.cell? ⟨la, 3, none⟩ = some (.slice (some ⟨sg, 0, none⟩) cn sc) ∧ W.cell? ⟨sg, k * 2, none⟩ = some (.int .i64 pa) ∧ W.cell? ⟨sg, k1 * 2, none⟩ = some (.int .i64 pb)) ∧ (W.cell? ⟨la, 3, none⟩ = some (.slice (some ⟨sg, 0, none⟩) cn sc) ∧ W.cell? ⟨sg, k * 2 + 1, none⟩ = some (.int .i64 (qa : Nat)) ∧ W.cell? ⟨sg, k1 * 2 + 1, none⟩ = some (.int .i64 (qb : Nat)))) := Lib.hid (fun W hW => by
        have h3 : W.cell? ⟨la, 3, none⟩ = some (.slice (some ⟨sg, 0, none⟩) cn sc) := (blk_cell (HC.out _ hW) 3).trans rfl
        have g : ∀ j u, j < Po.cnt l.length * 2 → (skv l (Po.cnt l.length))[j]? = some u → W.cell? ⟨sg, j, none⟩ = some u := fun j u hj hu => ((hW.cell (p := ⟨sg, j, none⟩) hsl).trans (HL.out.skips.cellAt _ hj)).trans hu
        refine ⟨⟨h3, ?_, ?_⟩, h3, ?_, ?_⟩
        · rw [← hk, Nat.mul_comm, ← hpa]; exact g _ _ (by omega) hska.1
        · rw [Nat.mul_comm, ← hpb]; exact g _ _ (by omega) hskb.1
        · rw [← hk, Nat.mul_comm, ← hqa]; exact g _ _ (by omega) hska.2
        · rw [Nat.mul_comm, ← hqb]; exact g _ _ (by omega) hskb.2)
      have HLK : Hid (∀ W, Below w.heap.size w W → W.cell? ⟨la, 3, none⟩ = some (.slice (some ⟨sg, 0, none⟩) cn sc) ∧ W.cell? ⟨sg, k * 2, none⟩ = some (.int .i64 pa) ∧ W.cell? ⟨sg, k1 * 2, none⟩ = some (.int .i64 pb)) := Lib.hid (fun W hW => (HSK.out W hW).1)
      have HLQ : Hid (∀ W, Below w.heap.size w W → W.cell? ⟨la, 3, none⟩ = some (.slice (some ⟨sg, 0, none⟩) cn sc) ∧ W.cell? ⟨sg, k * 2 + 1, none⟩ = some (.int .i64 (qa : Nat)) ∧ W.cell? ⟨sg, k1 * 2 + 1, none⟩ = some (.int .i64 (qb : Nat))) := Lib.hid (fun W hW => (HSK.out W hW).2)
      obtain ⟨m, hm⟩ : ∃ m, bs.length = m := ⟨_, rfl⟩
      obtain ⟨b4, hb4⟩ : ∃ b, bs ++ Po.uvar d1 = b := ⟨_, rfl⟩
      have hb4l : b4.length < 200000 := by rw [← hb4, List.length_append]; have h1 := HENT.out; have h2 := Po.uvar_len d1; omega
      have hPA := putU_calls oA oC bs d1 W.drew (own_reads8 HOWN.out) hd1b (by have := HENT.out; omega)
      rw [hm, hb4] at hPA
      have HP1 := Lib.hid hPA
      have HB4L := Lib.hid hb4l
      have HKK := Lib.hid hk
      have HFIN : Hid (b4 ++ Po.uvar d2 = h0 ++ Po.entries l k) := Lib.hid (by rw [← hb4, HBS.out, ← hk, Po.entries, HEN.out]; simp only [List.append_assoc])
      have HD2B := Lib.hid hd2b
      have HKB : Hid (k ≤ 300) := Lib.hid (by have h1 := HCN.out; have h2 := HLN.out; omega)
      have HLT2 : Hid (k1 + 1 + 1 ≤ cn) := Lib.hid (by omega)
      rw [hm]
      clear hk hkI hzk2 hk16 hd1 hd1n hd1s hmono hmono2 hbs2 hqa hqb hd2 hpa hpb hcnl hska hskb hPA hb4l hb4 hm hkc hlt hk3 hd1b hd2b d3
      have hx1 := hq1.out
      have hx2 := hq2.out
      have hx3 := hq3.out
      have hx4 := hq4.out
      have hx5 := hq5.out
      have d3 : W.cell? ⟨la, 3, none⟩ = some (.slice (some ⟨sg, 0, none⟩) cn sc) := (HLK.out W HBD.out).1
      go_wp2
      refine start_ (n := 22) (S := fun w' => w'.cell? ⟨la, 3, none⟩ = some (.slice (some ⟨sg, 0, none⟩) cn sc) ∧ w'.cell? ⟨sg, k * 2, none⟩ = some (.int .i64 pa) ∧ w'.cell? ⟨sg, k1 * 2, none⟩ = some (.int .i64 pb)) (ds := []) #[false, false, false, false, false, false, false, false, false, false, false, false, false, false, false, false, false, false, false, false, false, false] (by kernel_rfl) rfl rfl (HLK.out _ HBD.out.drew) (fun hHeld => ?_)
      refine pure_ (i := 0) (N := some 33) (v := ?_) (a' := ?_) #[true, false, false, false, false, false, false, false, false, false, false, false, false, false, false, false, false, false, false, false, false, false] rfl rfl (by kernel_rfl) (fun _ _ _ h => h) (Or.inl ⟨by rfl, ?_⟩) ?_ ?_
      rotate_left
      · intro w'
        go_simp
        with_reducible rfl
      rotate_left
      · simp only [Act.put, List.setIfInBounds_toArray, List.set_cons_zero, List.set_cons_succ, i64_w, i32_w]
        rfl
      refine pure_ (i := 1) (N := some 34) (v := ?_) (a' := ?_) #[true, true, false, false, false, false, false, false, false, false, false, false, false, false, false, false, false, false, false, false, false, false] rfl rfl (by kernel_rfl) (fun _ _ _ h => h) (Or.inl ⟨by rfl, ?_⟩) ?_ ?_
      rotate_left
      · intro w'
        go_simp
        with_reducible rfl
      rotate_left
      · simp only [Act.put, List.setIfInBounds_toArray, List.set_cons_zero, List.set_cons_succ, i64_w, i32_w]
        rfl
      refine pure_ (i := 2) (N := some 35) (v := ?_) (a' := ?_) #[true, true, true, false, false, false, false, false, false, false, false, false, false, false, false, false, false, false, false, false, false, false] rfl rfl (by kernel_rfl) (fun _ _ _ h => h) (Or.inl ⟨by rfl, ?_⟩) ?_ ?_
      rotate_left
      · intro w'
        go_simp
        with_reducible rfl
      rotate_left
      · simp only [Act.put, List.setIfInBounds_toArray, List.set_cons_zero, List.set_cons_succ, i64_w, i32_w]
        rfl
      refine pure_ (i := 3) (N := some 36) (v := ?_) (a' := ?_) #[true, true, true, true, false, false, false, false, false, false, false, false, false, false, false, false, false, false, false, false, false, false] rfl rfl (by kernel_rfl) (fun _ _ _ h => h) (Or.inl ⟨by rfl, ?_⟩) ?_ ?_
      rotate_left
      · intro w'
        go_simp
        with_reducible rfl
      rotate_left
      · simp only [Act.put, List.setIfInBounds_toArray, List.set_cons_zero, List.set_cons_succ, i64_w, i32_w]
        rfl
      refine take_ (i := 4) (N := some 37) (v := ?_) (a' := ?_) #[true, true, true, true, true, false, false, false, false, false, false, false, false, false, false, false, false, false, false, false, false, false] rfl rfl (by kernel_rfl) (fun _ _ _ h => h) (Or.inl ⟨by rfl, ?_⟩) hHeld ?_ ?_
      rotate_left
      · rintro w' ⟨s0, s1, s2⟩
        go_simp
        with_reducible rfl
      rotate_left
      · simp only [Act.put, List.setIfInBounds_toArray, List.set_cons_zero, List.set_cons_succ, i64_w, i32_w]
        rfl
      refine pure_ (i := 5) (N := some 38) (v := ?_) (a' := ?_) #[true, true, true, true, true, true, false, false, false, false, false, false, false, false, false, false, false, false, false, false, false, false] rfl rfl (by kernel_rfl) (fun _ _ _ h => h) (Or.inl ⟨by rfl, ?_⟩) ?_ ?_
      rotate_left
      · intro w'
        go_simp
        with_reducible rfl
      rotate_left
      · simp only [Act.put, List.setIfInBounds_toArray, List.set_cons_zero, List.set_cons_succ, i64_w, i32_w]
        rfl
      refine pure_ (i := 6) (N := some 39) (v := ?_) (a' := ?_) #[true, true, true, true, true, true, true, false, false, false, false, false, false, false, false, false, false, false, false, false, false, false] rfl rfl (by kernel_rfl) (fun _ _ _ h => h) (Or.inl ⟨by rfl, ?_⟩) ?_ ?_
      rotate_left
      · intro w'
        go_simp
        with_reducible rfl
      rotate_left
      · simp only [Act.put, List.setIfInBounds_toArray, List.set_cons_zero, List.set_cons_succ, i64_w, i32_w]
        rfl
      refine pure_ (i := 7) (N := some 40) (v := ?_) (a' := ?_) #[true, true, true, true, true, true, true, true, false, false, false, false, false, false, false, false, false, false, false, false, false, false] rfl rfl (by kernel_rfl) (fun _ _ _ h => h) (Or.inl ⟨by rfl, ?_⟩) ?_ ?_
      rotate_left
      · intro w'
        go_simp
        with_reducible rfl
      rotate_left
      · simp only [Act.put, List.setIfInBounds_toArray, List.set_cons_zero, List.set_cons_succ, i64_w, i32_w]
        rfl
      refine take_ (i := 8) (N := some 41) (v := ?_) (a' := ?_) #[true, true, true, true, true, true, true, true, true, false, false, false, false, false, false, false, false, false, false, false, false, false] rfl rfl (by kernel_rfl) (fun _ _ _ h => h) (Or.inl ⟨by rfl, ?_⟩) hHeld ?_ ?_
      rotate_left
      · rintro w' ⟨s0, s1, s2⟩
        go_simp
        with_reducible rfl
      rotate_left
      · simp only [Act.put, List.setIfInBounds_toArray, List.set_cons_zero, List.set_cons_succ, i64_w, i32_w]
        rfl
      refine pure_ (i := 9) (N := some 42) (v := ?_) (a' := ?_) #[true, true, true, true, true, true, true, true, true, true, false, false, false, false, false, false, false, false, false, false, false, false] rfl rfl (by kernel_rfl) (fun _ _ _ h => h) (Or.inl ⟨by rfl, ?_⟩) ?_ ?_
      rotate_left
      · intro w'
        go_simp
        with_reducible rfl
      rotate_left
      · simp only [Act.put, List.setIfInBounds_toArray, List.set_cons_zero, List.set_cons_succ, i64_w, i32_w]
        rfl
      refine pure_ (i := 10) (N := some 43) (v := ?_) (a' := ?_) #[true, true, true, true, true, true, true, true, true, true, true, false, false, false, false, false, false, false, false, false, false, false] rfl rfl (by kernel_rfl) (fun _ _ _ h => h) (Or.inl ⟨by rfl, ?_⟩) ?_ ?_
      rotate_left
      · intro w'
        go_simp
        with_reducible rfl
      rotate_left
      · simp only [Act.put, List.setIfInBounds_toArray, List.set_cons_zero, List.set_cons_succ, i64_w, i32_w]
        rfl
      refine pure_ (i := 11) (N := some 44) (v := ?_) (a' := ?_) #[true, true, true, true, true, true, true, true, true, true, true, true, false, false, false, false, false, false, false, false, false, false] rfl rfl (by kernel_rfl) (fun _ _ _ h => h) (Or.inl ⟨by rfl, ?_⟩) ?_ ?_
      rotate_left
      · intro w'
        go_simp
        with_reducible rfl
      rotate_left
      · simp only [Act.put, List.setIfInBounds_toArray, List.set_cons_zero, List.set_cons_succ, i64_w, i32_w]
        rfl
      refine take_ (i := 12) (N := some 45) (v := ?_) (a' := ?_) #[true, true, true, true, true, true, true, true, true, true, true, true, true, false, false, false, false, false, false, false, false, false] rfl rfl (by kernel_rfl) (fun _ _ _ h => h) (Or.inl ⟨by rfl, ?_⟩) hHeld ?_ ?_
      rotate_left
      · rintro w' ⟨s0, s1, s2⟩
        go_simp
        with_reducible rfl
      rotate_left
      · simp only [Act.put, List.setIfInBounds_toArray, List.set_cons_zero, List.set_cons_succ, i64_w, i32_w]
        rfl
      refine pure_ (i := 13) (N := some 46) (v := ?_) (a' := ?_) #[true, true, true, true, true, true, true, true, true, true, true, true, true, true, false, false, false, false, false, false, false, false] rfl rfl (by kernel_rfl) (fun _ _ _ h => h) (Or.inl ⟨by rfl, ?_⟩) ?_ ?_
      rotate_left
      · intro w'
        go_simp
        with_reducible rfl
      rotate_left
      · simp only [Act.put, List.setIfInBounds_toArray, List.set_cons_zero, List.set_cons_succ, i64_w, i32_w]
        rfl
      refine pure_ (i := 14) (N := some 47) (v := ?_) (a' := ?_) #[true, true, true, true, true, true, true, true, true, true, true, true, true, true, true, false, false, false, false, false, false, false] rfl rfl (by kernel_rfl) (fun _ _ _ h => h) (Or.inl ⟨by rfl, ?_⟩) ?_ ?_
      rotate_left
      · intro w'
        go_simp
        with_reducible rfl
      rotate_left
      · simp only [Act.put, List.setIfInBounds_toArray, List.set_cons_zero, List.set_cons_succ, i64_w, i32_w]
        rfl
      refine pure_ (i := 15) (N := some 48) (v := ?_) (a' := ?_) #[true, true, true, true, true, true, true, true, true, true, true, true, true, true, true, true, false, false, false, false, false, false] rfl rfl (by kernel_rfl) (fun _ _ _ h => h) (Or.inl ⟨by rfl, ?_⟩) ?_ ?_
      rotate_left
      · intro w'
        go_simp
        with_reducible rfl
      rotate_left
      · simp only [Act.put, List.setIfInBounds_toArray, List.set_cons_zero, List.set_cons_succ, i64_w, i32_w]
        rfl
      refine pure_ (i := 16) (N := some 49) (v := ?_) (a' := ?_) #[true, true, true, true, true, true, true, true, true, true, true, true, true, true, true, true, true, false, false, false, false, false] rfl rfl (by kernel_rfl) (fun _ _ _ h => h) (Or.inl ⟨by rfl, ?_⟩) ?_ ?_
      rotate_left
      · intro w'
        go_simp
        with_reducible rfl
      rotate_left
      · simp only [Act.put, List.setIfInBounds_toArray, List.set_cons_zero, List.set_cons_succ, i64_w, i32_w]
        rfl
      refine take_ (i := 17) (N := some 50) (v := ?_) (a' := ?_) #[true, true, true, true, true, true, true, true, true, true, true, true, true, true, true, true, true, true, false, false, false, false] rfl rfl (by kernel_rfl) (fun _ _ _ h => h) (Or.inl ⟨by rfl, ?_⟩) hHeld ?_ ?_
      rotate_left
      · rintro w' ⟨s0, s1, s2⟩
        go_simp
        with_reducible rfl
      rotate_left
      · simp only [Act.put, List.setIfInBounds_toArray, List.set_cons_zero, List.set_cons_succ, i64_w, i32_w]
        rfl
      refine pure_ (i := 18) (N := some 51) (v := ?_) (a' := ?_) #[true, true, true, true, true, true, true, true, true, true, true, true, true, true, true, true, true, true, true, false, false, false] rfl rfl (by kernel_rfl) (fun _ _ _ h => h) (Or.inl ⟨by rfl, ?_⟩) ?_ ?_
      rotate_left
      · intro w'
        go_simp
        with_reducible rfl
      rotate_left
      · simp only [Act.put, List.setIfInBounds_toArray, List.set_cons_zero, List.set_cons_succ, i64_w, i32_w]
        rfl
      refine pure_ (i := 19) (N := some 52) (v := ?_) (a' := ?_) #[true, true, true, true, true, true, true, true, true, true, true, true, true, true, true, true, true, true, true, true, false, false] rfl rfl (by kernel_rfl) (fun _ _ _ h => h) (Or.inl ⟨by rfl, ?_⟩) ?_ ?_
      rotate_left
      · intro w'
        go_simp
        with_reducible rfl
      rotate_left
      · simp only [Act.put, List.setIfInBounds_toArray, List.set_cons_zero, List.set_cons_succ, i64_w, i32_w]
        rfl
      refine one_ (i := 20) (N := some 53) #[true, true, true, true, true, true, true, true, true, true, true, true, true, true, true, true, true, true, true, true, true, false] rfl rfl (by kernel_rfl) (by decide) (fun K hK => ?_)
      refine goes_ Try.func71 (by kernel_rfl) rfl #[.slice oA m oC, .int .u64 (d1 : Nat)] (by rfl) rfl rfl (by (try simp only [List.map_toArray, List.map_cons, List.map_nil]); first | done | rfl) ?_
      with_reducible refine (HP1.out).mono ?_
      rintro e w4 ⟨v4, rfl, ho, hb⟩
      have HO_w4 := Lib.hid ho
      have HB_w4 := Lib.hid hb
      clear ho hb
      refine ⟨_, rfl, ?_⟩
      refine hK.out _ _ (HLK.out _ (HBD.out.drew.trans (HB_w4.out.mono HBD.out.drew.size))) (fun hHeld => ?_)
      clear hK K
      refine norm_ (a' := ?_) ?_ ?_
      rotate_left
      · show Act.put _ (some 53) _ = _
        simp only [Act.put, List.setIfInBounds_toArray, List.set_cons_zero, List.set_cons_succ, i64_w, i32_w]
        rfl
      refine pure_ (i := 21) (N := some 3) (v := ?_) (a' := ?_) #[true, true, true, true, true, true, true, true, true, true, true, true, true, true, true, true, true, true, true, true, true, true] rfl rfl (by kernel_rfl) (fun _ _ _ h => h) (Or.inl ⟨by rfl, ?_⟩) ?_ ?_
      rotate_left
      · intro w'
        go_simp
        with_reducible rfl
      rotate_left
      · simp only [Act.put, List.setIfInBounds_toArray, List.set_cons_zero, List.set_cons_succ, i64_w, i32_w]
        rfl
      refine done_ (by kernel_rfl) ?_
      obtain ⟨oA4, oC4, rfl⟩ := own_slice HO_w4.out
      have hbd4 : Below w.heap.size w w4 := HBD.out.drew.trans (HB_w4.out.mono HBD.out.drew.size)
      have HBD4 := Lib.hid hbd4
      have HO4 := Lib.hid (own_less HO_w4.out HBD.out.drew.size)
      have hPB := putU_calls oA4 oC4 b4 d2 w4.drew (own_reads8 HO4.out) HD2B.out (by have := HB4L.out; omega)
      obtain ⟨m4, hm4⟩ : ∃ m, b4.length = m := ⟨_, rfl⟩
      rw [hm4, HFIN.out] at hPB
      have HP2 := Lib.hid hPB
      rw [hm4]
      clear hPB hbd4 hm4
      go_wp2
      refine start_ (n := 22) (S := fun w' => w'.cell? ⟨la, 3, none⟩ = some (.slice (some ⟨sg, 0, none⟩) cn sc) ∧ w'.cell? ⟨sg, k * 2 + 1, none⟩ = some (.int .i64 (qa : Nat)) ∧ w'.cell? ⟨sg, k1 * 2 + 1, none⟩ = some (.int .i64 (qb : Nat))) (ds := []) #[false, false, false, false, false, false, false, false, false, false, false, false, false, false, false, false, false, false, false, false, false, false] (by kernel_rfl) rfl rfl (HLQ.out _ HBD4.out.drew) (fun hHeld => ?_)
      refine pure_ (i := 0) (N := some 54) (v := ?_) (a' := ?_) #[true, false, false, false, false, false, false, false, false, false, false, false, false, false, false, false, false, false, false, false, false, false] rfl rfl (by kernel_rfl) (fun _ _ _ h => h) (Or.inl ⟨by rfl, ?_⟩) ?_ ?_
      rotate_left
      · intro w'
        go_simp
        with_reducible rfl
      rotate_left
      · simp only [Act.put, List.setIfInBounds_toArray, List.set_cons_zero, List.set_cons_succ, i64_w, i32_w]
        rfl
      refine pure_ (i := 1) (N := some 55) (v := ?_) (a' := ?_) #[true, true, false, false, false, false, false, false, false, false, false, false, false, false, false, false, false, false, false, false, false, false] rfl rfl (by kernel_rfl) (fun _ _ _ h => h) (Or.inl ⟨by rfl, ?_⟩) ?_ ?_
      rotate_left
      · intro w'
        go_simp
        with_reducible rfl
      rotate_left
      · simp only [Act.put, List.setIfInBounds_toArray, List.set_cons_zero, List.set_cons_succ, i64_w, i32_w]
        rfl
      refine pure_ (i := 2) (N := some 56) (v := ?_) (a' := ?_) #[true, true, true, false, false, false, false, false, false, false, false, false, false, false, false, false, false, false, false, false, false, false] rfl rfl (by kernel_rfl) (fun _ _ _ h => h) (Or.inl ⟨by rfl, ?_⟩) ?_ ?_
      rotate_left
      · intro w'
        go_simp
        with_reducible rfl
      rotate_left
      · simp only [Act.put, List.setIfInBounds_toArray, List.set_cons_zero, List.set_cons_succ, i64_w, i32_w]
        rfl
      refine pure_ (i := 3) (N := some 57) (v := ?_) (a' := ?_) #[true, true, true, true, false, false, false, false, false, false, false, false, false, false, false, false, false, false, false, false, false, false] rfl rfl (by kernel_rfl) (fun _ _ _ h => h) (Or.inl ⟨by rfl, ?_⟩) ?_ ?_
      rotate_left
      · intro w'
        go_simp
        with_reducible rfl
      rotate_left
      · simp only [Act.put, List.setIfInBounds_toArray, List.set_cons_zero, List.set_cons_succ, i64_w, i32_w]
        rfl
      refine take_ (i := 4) (N := some 58) (v := ?_) (a' := ?_) #[true, true, true, true, true, false, false, false, false, false, false, false, false, false, false, false, false, false, false, false, false, false] rfl rfl (by kernel_rfl) (fun _ _ _ h => h) (Or.inl ⟨by rfl, ?_⟩) hHeld ?_ ?_
      rotate_left
      · rintro w' ⟨s0, s1, s2⟩
        go_simp
        with_reducible rfl
      rotate_left
      · simp only [Act.put, List.setIfInBounds_toArray, List.set_cons_zero, List.set_cons_succ, i64_w, i32_w]
        rfl
      refine pure_ (i := 5) (N := some 59) (v := ?_) (a' := ?_) #[true, true, true, true, true, true, false, false, false, false, false, false, false, false, false, false, false, false, false, false, false, false] rfl rfl (by kernel_rfl) (fun _ _ _ h => h) (Or.inl ⟨by rfl, ?_⟩) ?_ ?_
      rotate_left
      · intro w'
        go_simp
        with_reducible rfl
      rotate_left
      · simp only [Act.put, List.setIfInBounds_toArray, List.set_cons_zero, List.set_cons_succ, i64_w, i32_w]
        rfl
      refine pure_ (i := 6) (N := some 60) (v := ?_) (a' := ?_) #[true, true, true, true, true, true, true, false, false, false, false, false, false, false, false, false, false, false, false, false, false, false] rfl rfl (by kernel_rfl) (fun _ _ _ h => h) (Or.inl ⟨by rfl, ?_⟩) ?_ ?_
      rotate_left
      · intro w'
        go_simp
        with_reducible rfl
      rotate_left
      · simp only [Act.put, List.setIfInBounds_toArray, List.set_cons_zero, List.set_cons_succ, i64_w, i32_w]
        rfl
      refine pure_ (i := 7) (N := some 61) (v := ?_) (a' := ?_) #[true, true, true, true, true, true, true, true, false, false, false, false, false, false, false, false, false, false, false, false, false, false] rfl rfl (by kernel_rfl) (fun _ _ _ h => h) (Or.inl ⟨by rfl, ?_⟩) ?_ ?_
      rotate_left
      · intro w'
        go_simp
        with_reducible rfl
      rotate_left
      · simp only [Act.put, List.setIfInBounds_toArray, List.set_cons_zero, List.set_cons_succ, i64_w, i32_w]
        rfl
      refine take_ (i := 8) (N := some 62) (v := ?_) (a' := ?_) #[true, true, true, true, true, true, true, true, true, false, false, false, false, false, false, false, false, false, false, false, false, false] rfl rfl (by kernel_rfl) (fun _ _ _ h => h) (Or.inl ⟨by rfl, ?_⟩) hHeld ?_ ?_
      rotate_left
      · rintro w' ⟨s0, s1, s2⟩
        go_simp
        with_reducible rfl
      rotate_left
      · simp only [Act.put, List.setIfInBounds_toArray, List.set_cons_zero, List.set_cons_succ, i64_w, i32_w]
        rfl
      refine pure_ (i := 9) (N := some 63) (v := ?_) (a' := ?_) #[true, true, true, true, true, true, true, true, true, true, false, false, false, false, false, false, false, false, false, false, false, false] rfl rfl (by kernel_rfl) (fun _ _ _ h => h) (Or.inl ⟨by rfl, ?_⟩) ?_ ?_
      rotate_left
      · intro w'
        go_simp
        with_reducible rfl
      rotate_left
      · simp only [Act.put, List.setIfInBounds_toArray, List.set_cons_zero, List.set_cons_succ, i64_w, i32_w]
        rfl
      refine pure_ (i := 10) (N := some 64) (v := ?_) (a' := ?_) #[true, true, true, true, true, true, true, true, true, true, true, false, false, false, false, false, false, false, false, false, false, false] rfl rfl (by kernel_rfl) (fun _ _ _ h => h) (Or.inl ⟨by rfl, ?_⟩) ?_ ?_
      rotate_left
      · intro w'
        go_simp
        with_reducible rfl
      rotate_left
      · simp only [Act.put, List.setIfInBounds_toArray, List.set_cons_zero, List.set_cons_succ, i64_w, i32_w]
        rfl
      refine pure_ (i := 11) (N := some 65) (v := ?_) (a' := ?_) #[true, true, true, true, true, true, true, true, true, true, true, true, false, false, false, false, false, false, false, false, false, false] rfl rfl (by kernel_rfl) (fun _ _ _ h => h) (Or.inl ⟨by rfl, ?_⟩) ?_ ?_
      rotate_left
      · intro w'
        go_simp
        with_reducible rfl
      rotate_left
      · simp only [Act.put, List.setIfInBounds_toArray, List.set_cons_zero, List.set_cons_succ, i64_w, i32_w]
        rfl
      refine take_ (i := 12) (N := some 66) (v := ?_) (a' := ?_) #[true, true, true, true, true, true, true, true, true, true, true, true, true, false, false, false, false, false, false, false, false, false] rfl rfl (by kernel_rfl) (fun _ _ _ h => h) (Or.inl ⟨by rfl, ?_⟩) hHeld ?_ ?_
      rotate_left
      · rintro w' ⟨s0, s1, s2⟩
        go_simp
        with_reducible rfl
      rotate_left
      · simp only [Act.put, List.setIfInBounds_toArray, List.set_cons_zero, List.set_cons_succ, i64_w, i32_w]
        rfl
      refine pure_ (i := 13) (N := some 67) (v := ?_) (a' := ?_) #[true, true, true, true, true, true, true, true, true, true, true, true, true, true, false, false, false, false, false, false, false, false] rfl rfl (by kernel_rfl) (fun _ _ _ h => h) (Or.inl ⟨by rfl, ?_⟩) ?_ ?_
      rotate_left
      · intro w'
        go_simp
        with_reducible rfl
      rotate_left
      · simp only [Act.put, List.setIfInBounds_toArray, List.set_cons_zero, List.set_cons_succ, i64_w, i32_w]
        rfl
      refine pure_ (i := 14) (N := some 68) (v := ?_) (a' := ?_) #[true, true, true, true, true, true, true, true, true, true, true, true, true, true, true, false, false, false, false, false, false, false] rfl rfl (by kernel_rfl) (fun _ _ _ h => h) (Or.inl ⟨by rfl, ?_⟩) ?_ ?_
      rotate_left
      · intro w'
        go_simp
        with_reducible rfl
      rotate_left
      · simp only [Act.put, List.setIfInBounds_toArray, List.set_cons_zero, List.set_cons_succ, i64_w, i32_w]
        rfl
      refine pure_ (i := 15) (N := some 69) (v := ?_) (a' := ?_) #[true, true, true, true, true, true, true, true, true, true, true, true, true, true, true, true, false, false, false, false, false, false] rfl rfl (by kernel_rfl) (fun _ _ _ h => h) (Or.inl ⟨by rfl, ?_⟩) ?_ ?_
      rotate_left
      · intro w'
        go_simp
        with_reducible rfl
      rotate_left
      · simp only [Act.put, List.setIfInBounds_toArray, List.set_cons_zero, List.set_cons_succ, i64_w, i32_w]
        rfl
      refine pure_ (i := 16) (N := some 70) (v := ?_) (a' := ?_) #[true, true, true, true, true, true, true, true, true, true, true, true, true, true, true, true, true, false, false, false, false, false] rfl rfl (by kernel_rfl) (fun _ _ _ h => h) (Or.inl ⟨by rfl, ?_⟩) ?_ ?_
      rotate_left
      · intro w'
        go_simp
        with_reducible rfl
      rotate_left
      · simp only [Act.put, List.setIfInBounds_toArray, List.set_cons_zero, List.set_cons_succ, i64_w, i32_w]
        rfl
      refine take_ (i := 17) (N := some 71) (v := ?_) (a' := ?_) #[true, true, true, true, true, true, true, true, true, true, true, true, true, true, true, true, true, true, false, false, false, false] rfl rfl (by kernel_rfl) (fun _ _ _ h => h) (Or.inl ⟨by rfl, ?_⟩) hHeld ?_ ?_
      rotate_left
      · rintro w' ⟨s0, s1, s2⟩
        go_simp
        with_reducible rfl
      rotate_left
      · simp only [Act.put, List.setIfInBounds_toArray, List.set_cons_zero, List.set_cons_succ, i64_w, i32_w]
        rfl
      refine pure_ (i := 18) (N := some 72) (v := ?_) (a' := ?_) #[true, true, true, true, true, true, true, true, true, true, true, true, true, true, true, true, true, true, true, false, false, false] rfl rfl (by kernel_rfl) (fun _ _ _ h => h) (Or.inl ⟨by rfl, ?_⟩) ?_ ?_
      rotate_left
      · intro w'
        go_simp
        with_reducible rfl
      rotate_left
      · simp only [Act.put, List.setIfInBounds_toArray, List.set_cons_zero, List.set_cons_succ, i64_w, i32_w]
        rfl
      refine pure_ (i := 19) (N := some 73) (v := ?_) (a' := ?_) #[true, true, true, true, true, true, true, true, true, true, true, true, true, true, true, true, true, true, true, true, false, false] rfl rfl (by kernel_rfl) (fun _ _ _ h => h) (Or.inl ⟨by rfl, ?_⟩) ?_ ?_
      rotate_left
      · intro w'
        go_simp
        with_reducible rfl
      rotate_left
      · simp only [Act.put, List.setIfInBounds_toArray, List.set_cons_zero, List.set_cons_succ, i64_w, i32_w]
        rfl
      refine one_ (i := 20) (N := some 74) #[true, true, true, true, true, true, true, true, true, true, true, true, true, true, true, true, true, true, true, true, true, false] rfl rfl (by kernel_rfl) (by decide) (fun K hK => ?_)
      refine goes_ Try.func71 (by kernel_rfl) rfl #[.slice oA4 m4 oC4, .int .u64 (d2 : Nat)] (by rfl) rfl rfl (by (try simp only [List.map_toArray, List.map_cons, List.map_nil]); first | done | rfl) ?_
      with_reducible refine (HP2.out).mono ?_
      rintro e w5 ⟨v5, rfl, ho, hb⟩
      have HO_w5 := Lib.hid ho
      have HB_w5 := Lib.hid hb
      clear ho hb
      refine ⟨_, rfl, ?_⟩
      refine hK.out _ _ (HLQ.out _ (HBD4.out.drew.trans (HB_w5.out.mono HBD4.out.drew.size))) (fun hHeld => ?_)
      clear hK K
      refine norm_ (a' := ?_) ?_ ?_
      rotate_left
      · show Act.put _ (some 74) _ = _
        simp only [Act.put, List.setIfInBounds_toArray, List.set_cons_zero, List.set_cons_succ, i64_w, i32_w]
        rfl
      refine pure_ (i := 21) (N := some 3) (v := ?_) (a' := ?_) #[true, true, true, true, true, true, true, true, true, true, true, true, true, true, true, true, true, true, true, true, true, true] rfl rfl (by kernel_rfl) (fun _ _ _ h => h) (Or.inl ⟨by rfl, ?_⟩) ?_ ?_
      rotate_left
      · intro w'
        go_simp
        with_reducible rfl
      rotate_left
      · simp only [Act.put, List.setIfInBounds_toArray, List.set_cons_zero, List.set_cons_succ, i64_w, i32_w]
        rfl
      refine done_ (by kernel_rfl) ?_
      have hbd5 : Below w.heap.size w w5 := HBD4.out.drew.trans (HB_w5.out.mono HBD4.out.drew.size)
      have HBD5 := Lib.hid hbd5
      have HO5 := Lib.hid (own_less HO_w5.out HBD4.out.drew.size)
      have HWK6 : Hid (RowKit.wrap64 ((k : Int) + 1) = (k : Int) + 1) := Lib.hid (by have := HKB.out; clear hx1 hx2 hx3 hx4 hx5; exact wsmall' rfl (by omega) (by omega))
      clear hx1 hx2 hx3 hx4 hx5 hbd5 d3
      have hx6 := HWK6.out
      go_wp2
      go_roundg (300 - k)
      case measure => clear hx6; have := HKB.out; have := HKK.out; omega
      case rel => exact ⟨k, _, _, rfl, by first | rfl | exact congrArg (Value.int .i64) HWK6.out, HKB.out, Nat.le_refl _, .inl (by have := HLT2.out; have := HKK.out; clear hx6; omega), rfl, HO5.out, HBD5.out⟩
    · have hz : decide ((k1 : Int) + 1 < (cn : Int)) = false := by simp; omega
      have hge : cn ≤ k1 + 1 := by omega
      have HPAY : Hid (bs = Po.payload l) := Lib.hid (by
        have h1 : Po.cnt l.length - 1 = k1 := by rw [HNE.out, HCNE.out]; omega
        have h2 := HH0.out.1
        unfold hd at h2
        rw [HBS.out, ← h2]
        unfold Po.payload
        rw [h1])
      have hcap : bs.length ≤ oC := by
        rcases HOWN.out.2 with ⟨e, h0⟩ | ⟨g, cap, cur, e, _, _, hc, _⟩
        · omega
        · simp only [Value.slice.injEq] at e
          omega
      have hrd := own_reads8 HOWN.out
      have hcells : ∀ ad, oA = some ad → ∀ j, j < bs.length → W.cell? (ad.add j) = some (.int .u8 ((bs.getD j 0).toNat : Nat)) := fun ad e j hj => by
        obtain ⟨ad', e', hc⟩ := hrd.2.2 (by omega)
        rw [e] at e'
        obtain rfl := Option.some.inj e'
        rw [hc j hj, Given.at_ints]
      have hnone : oA = none → bs = [] := fun e => by
        rcases Nat.eq_zero_or_pos bs.length with h0 | h0
        · exact List.eq_nil_of_length_eq_zero h0
        · obtain ⟨ad', e', _⟩ := hrd.2.2 h0
          rw [e] at e'; cases e'
      have HSEAL := Lib.hid (seal_any oA oC bs W (by have := HENT.out; omega) (by have := HENT.out; omega) hnone hcells hcap)
      clear hcap hrd hcells hnone hkc hk3 hkx hge
      go_wp2_with (go_at_call 30; (with_reducible refine HSEAL.out.mono ?_); rintro e w6 ⟨⟨v6, rfl, ho6⟩, hb6⟩; have HO6 := Lib.hid ho6; have HB6 := Lib.hid hb6; clear ho6 hb6)
      go_ret
      have hE : Po.Enc l = Ck.shutIt bs := by unfold Po.Enc; rw [HPAY.out]
      rw [hE]
      exact ⟨v6, rfl, own_less HO6.out HBD.out.size, HBD.out.trans (HB6.out.mono HBD.out.size)⟩
end Go.Proofs.Ytmeojlamadcedaa

namespace Go.Proofs.Ytmeojlamadcedaa
set_option linter.unusedSimpArgs false
open Go.RowKit Go.Sort Go.Proofs.YtmeojlamadcedaaW.PrintWords Go.Proofs.YtmeojlamadcedaaW.PrintLast

theorem ex_facts : Po.errF Po.ex = 0 ∧ Po.seekP Po.ex 1 = 4 ∧ Po.rk Po.ex 1 = 1 ∧ Po.rk Po.ex 5 = 2 ∧ (Po.Enc Po.ex).length = 7 ∧ (Given.ints (Po.Enc Po.ex)).take 3 = [3, 7, 178] := by decide

theorem ints_C {w : World} {A : Option Addr} {l : List Int} (hl : l.length ≤ 9223372036854775807) (h : 0 < l.length → ∃ ad, A = some ad ∧ ∀ j, j < l.length → w.cell? (ad.add j) = some (.int .i64 (l.getD j 0))) : Kd.C (Kd.int .i64) w A l.length l :=
  Kd.C_of_reads (d := (0 : Int)) (h1 := fun _ => rfl) ⟨rfl, hl, h⟩

theorem txt_own {w : World} {base : Nat} {v : Value} {l : List UInt8} {n : Nat} (h : w.ownsRow base 5 1 v n (vals l)) : Given.Txt w v (Given.ints l) := by
  have hn := ownB h
  exact Given.Txt.ofOwn (base := base) (n := n) (Given.byt_ints l) (by rw [Given.ints_len, hn]) (by rw [Given.u8s_ints]; exact h)

/-- A list that Build made. -/
structure Made (w0 w : World) (v : Value) (l : List Int) : Prop where
  bel : Below w0.heap.size w0 w
  list : ∃ a gv sv, v = .pointer (some ⟨a, 0, none⟩) ∧ IsList w0.heap.size w a gv sv l

set_option maxHeartbeats 4000000 in
set_option maxRecDepth 100000 in
theorem awake17_true (w : World) : Calls Try.prog 36 #[] w fun e w' => e = .returned (.bool true) ∧ Below w.heap.size w w' := by
  obtain ⟨f1, f2, f3, f4, f5, f6⟩ := ex_facts
  have HB0 : Hid (Below w.heap.size w (w.alloc (.cells #[.int .i64 0, .int .i64 4, .int .i64 5] 3))) := Lib.hid ((Below.refl _ w).alloc (Nat.le_refl _) _)
  have hC : Kd.C (Kd.int .i64) (w.alloc (.cells #[.int .i64 0, .int .i64 4, .int .i64 5] 3)) (some ⟨w.heap.size, 0, none⟩) Po.ex.length Po.ex := ints_C (by decide) (fun _ => ⟨_, rfl, fun j hj => by
    rw [Addr.add_mid, Nat.zero_add]
    refine (blk_cell (blk_new w _) j).trans ?_
    have hj3 : j < 3 := hj
    match j, hj3 with
    | 0, _ => rfl
    | 1, _ => rfl
    | 2, _ => rfl⟩)
  have HBU : Hid (Calls Try.prog 62 #[.slice (some ⟨w.heap.size, 0, none⟩) 3 3] (w.alloc (.cells #[.int .i64 0, .int .i64 4, .int .i64 5] 3)) fun e w' => ∃ a gv sv, e = .returned (.tuple #[.pointer (some ⟨a, 0, none⟩), .int .i64 0]) ∧ IsList (w.heap.size + 1) w' a gv sv Po.ex ∧ Below w.heap.size w w') := Lib.hid (by
    refine (build_calls _ 3 Po.ex _ hC (by decide)).mono fun e w' hq => ?_
    obtain ⟨h1, h2⟩ := hq
    rcases h1 with ⟨hne, _⟩ | ⟨_, a, gv, sv, he, hl⟩
    · exact absurd f1 hne
    · exact ⟨a, gv, sv, he, by simpa using hl, HB0.out.trans (h2.mono (by simp))⟩)
  have HF := Lib.hid (And.intro f2 (And.intro f3 (And.intro f4 (And.intro f5 f6))))
  clear hC f1 f2 f3 f4 f5 f6
  go_enter Try.func36, Try.ntmps36
  go_wp2_with (first
    | (go_at_call 62; (with_reducible refine HBU.out.mono ?_); rintro e w1 ⟨la, gv, sv, rfl, hl, hb1⟩; have HL := Lib.hid hl; have HB1 := Lib.hid hb1
        ; have HS : Hid (Calls Try.prog 40 #[.pointer (some ⟨la, 0, none⟩), .int .i64 1] w1 fun e w' => e = .returned (.tuple #[.int .i64 4, .int .i64 1, .bool true]) ∧ Below w1.heap.size w1 w') := Lib.hid (by
            have h := seek_calls _ la gv sv Po.ex 1 w1 hl
            refine h.mono fun e w' hq => ?_
            obtain ⟨he, hb⟩ := hq
            rw [HF.out.1, HF.out.2.1] at he
            exact ⟨he, hb⟩)
        ; clear hl hb1)
    | (go_at_call 40; (with_reducible refine HS.out.mono ?_); rintro e w2 ⟨rfl, hb2⟩; have HB2 := Lib.hid hb2; have HL2 := Lib.hid (HL.out.later hb2)
        ; have HEN := Lib.hid (encode_calls _ la gv sv Po.ex w2 HL2.out); clear hb2)
    | (go_at_call 37; (with_reducible refine HEN.out.mono ?_); rintro e w3 ⟨v3, rfl, ho3, hb3⟩
        ; have hT := txt_own ho3
        ; rw [HF.out.2.2.2.1] at ho3
        ; obtain ⟨eA, eC, rfl⟩ := own_slice ho3
        ; have heC : (3 : Int) ≤ (eC : Int) ∧ (7 : Int) ≤ (eC : Int) := (by
            rcases ho3.2 with ⟨_, h0⟩ | ⟨g, cap, cur, e, _, _, hc, _⟩
            · omega
            · simp only [Value.slice.injEq] at e; omega)
        ; have he3 := heC.1
        ; have HT := Lib.hid (hT.take 3 (by decide))
        ; have HB3 := Lib.hid hb3
        ; have HRK : Hid (Calls Try.prog 61 #[.pointer (some ⟨la, 0, none⟩), .int .i64 5] w3 fun e w' => e = .returned (.int .i64 2) ∧ Below w3.heap.size w3 w') := Lib.hid (by
            have h := rank_calls _ la gv sv Po.ex 5 w3 (HL2.out.later hb3)
            rw [HF.out.2.2.1] at h
            exact h)
        ; clear ho3 hb3 hT heC)
    | (go_at_call 61; (with_reducible refine HRK.out.mono ?_); rintro e w4 ⟨rfl, hb4⟩; have HB4 := Lib.hid hb4
        ; have hcv : (convert 22 9 (.slice eA 3 eC)).run Try.prog w4 = .ok (.string { data := #[3, 7, 178] }) w4 := (by
            have h := (HT.out.below hb4).run
            rw [HF.out.2.2.2.2] at h
            exact h)
        ; clear hb4))
  go_ret
  refine ⟨rfl, ?_⟩
  have h2 := HB1.out.trans (HB2.out.mono HB1.out.size)
  have h3 := h2.trans (HB3.out.mono h2.size)
  exact h3.trans (HB4.out.mono h3.size)
end Go.Proofs.Ytmeojlamadcedaa
