/- corporalaw17.PostingsLimits.
   Conditions: those of the theorems. -/
import Derived.Test.YtmeojlamadcedaaPoA
namespace Go.Proofs.Ytmeojlamadcedaa
set_option linter.unusedSimpArgs false
open Go.RowKit Go.Sort Go.Proofs.YtmeojlamadcedaaW.PrintWords Go.Proofs.YtmeojlamadcedaaW.PrintLast

/-- The positions that the law tries. -/
def stair (n s : Nat) : List Int := (List.range n).map fun i => ((i * (1 + s) : Nat) : Int)
theorem stair_len (n s : Nat) : (stair n s).length = n := by simp [stair]
theorem stair_at (n s i : Nat) (h : i < n) : (stair n s).getD i 0 = ((i * (1 + s) : Nat) : Int) := by
  unfold stair
  rw [List.getD_eq_getElem?_getD, List.getElem?_map, List.getElem?_range h]; rfl
theorem stair_ok (n s : Nat) (hn : n ≤ 4096) (hs : s < 256) : Po.errF (stair n s) = 0 := by
  rw [Po.errF_zero, stair_len]
  refine ⟨hn, fun i hi => ?_⟩
  rw [stair_len] at hi
  have h1 : i * (1 + s) ≤ 4096 * 256 := Nat.mul_le_mul (by omega) (by omega)
  refine ⟨?_, ?_, ?_⟩
  · rw [stair_at n s i hi]; omega
  · rw [stair_at n s i hi]; omega
  · rw [stair_at n s i hi]
    cases i with
    | zero => show (-1 : Int) < ((0 * (1 + s) : Nat) : Int); omega
    | succ j =>
      show (stair n s).getD j 0 < _
      rw [stair_at n s j (by omega), Nat.succ_mul]
      omega
theorem stair_long (n s : Nat) (hn : 4096 < n) : Po.errF (stair n s) = 2 := by unfold Po.errF; rw [stair_len, if_pos hn]

/-- The row, i positions filled in. -/
def fillN (T : List Int) (n i : Nat) : List Int := T.take i ++ List.replicate (n - i) 0
theorem fillN_set (T : List Int) (i n : Nat) (hT : T.length = n) (hi : i < n) : (fillN T n i).set i (T.getD i 0) = fillN T n (i + 1) := by
  have hl : (T.take i).length = i := by rw [List.length_take]; omega
  have e : T.take (i + 1) = T.take i ++ [T.getD i 0] := by
    rw [List.take_add_one, List.getD_eq_getElem?_getD, List.getElem?_eq_getElem (by omega)]; rfl
  unfold fillN
  rw [List.set_append_right _ _ (by omega), hl, Nat.sub_self, show n - i = (n - (i + 1)) + 1 by omega, List.replicate_succ, List.set_cons_zero, e, List.append_assoc]
  rfl
theorem fillN_len (T : List Int) (n i : Nat) (hT : T.length = n) (hi : i ≤ n) : (fillN T n i).length = n := by
  unfold fillN; rw [List.length_append, List.length_take, List.length_replicate]; omega
theorem nums_set (l : List Int) (i : Nat) (x : Int) : (nums .i64 l).toArray.setIfInBounds i (.int .i64 x) = (nums .i64 (l.set i x)).toArray := by
  unfold nums; rw [List.setIfInBounds_toArray, List.map_set]
theorem info3 : ∃ i : TypeInfo, Try.prog.info? 3 = some i ∧ i.zero = some (.int .i64 0) ∧ i.size = 1 ∧ i.bytes = 8 := by
  have h : (Try.prog.info? 3).map (fun i => (i.zero, i.size, i.bytes)) = some (some (.int .i64 0), 1, 8) := by kernel_rfl
  obtain ⟨i, hi, he⟩ := Option.map_eq_some_iff.mp h
  simp only [Prod.mk.injEq] at he
  exact ⟨i, hi, he.1, he.2.1, he.2.2⟩

theorem limits_out (n : Int) (s : Int) (w : World) (h : n < 0 ∨ 4097 < n) : Calls Try.prog 22 #[.int .i64 n, .int .u8 s] w fun e w' => e = .returned (.bool true) ∧ Below w.heap.size w w' := by
  by_cases h0 : n < 0
  · have hd : decide (n < 0) = true := decide_eq_true h0
    go_enter Try.func22, Try.ntmps22
    go_wp2
    go_ret
    exact ⟨rfl, Below.refl _ _⟩
  · have hd : decide (n < 0) = false := decide_eq_false h0
    have hd2 : decide (4097 < n) = true := by simp; omega
    go_enter Try.func22, Try.ntmps22
    go_wp2
    go_ret
    exact ⟨rfl, Below.refl _ _⟩

set_option maxHeartbeats 4000000 in
set_option maxRecDepth 100000 in
theorem limits_in (n s : Nat) (w : World) (hn : n ≤ 4097) (hs : s < 256) : Calls Try.prog 22 #[.int .i64 (n : Nat), .int .u8 (s : Nat)] w fun e w' => e = .returned (.bool true) ∧ Below w.heap.size w w' := by
  obtain ⟨i3, hi, hi1, hi2, hi3⟩ := info3
  have hd : decide ((n : Int) < 0) = false := by simp
  have hd2 : decide ((4097 : Int) < (n : Int)) = false := by simp; omega
  have hmk := run_make (P := Try.prog) w 38 3 i3 (.int .i64 0) (show Try.prog.underlying 38 = some (.slice 3) by kernel_rfl) hi hi1 .i64 .i64 (n : Int) (n : Int) (by omega) (by omega) (by rw [hi3]; omega) (by omega)
  have hmc : madeCells (Value.int .i64 0).cells (((n : Int)).toNat * i3.size) = (nums .i64 (fillN (stair n s) n 0)).toArray := by
    rw [hi2, show ((n : Int)).toNat * 1 = n by omega]
    have h := toList_madeCells_one (.int .i64 0) n
    unfold fillN nums
    rw [List.take_zero, List.nil_append, Nat.sub_zero, List.map_replicate, ← h, Array.toArray_toList]; rfl
  rw [hmc, show ((n : Int)).toNat = n by omega] at hmk
  have HTL := Lib.hid (stair_len n s)
  have HAT : Hid (∀ i, i < n → (stair n s).getD i 0 = ((i * (1 + s) : Nat) : Int)) := Lib.hid (fun i h => stair_at n s i h)
  have HOK := Lib.hid (stair_ok n s)
  have HLO := Lib.hid (stair_long n s)
  obtain ⟨T, hT⟩ : ∃ T, stair n s = T := ⟨_, rfl⟩
  rw [hT] at HTL HAT HOK HLO hmk
  have HS := Lib.hid hs
  have HN := Lib.hid hn
  clear hmc hi hi1 hi2 hi3 hT hs hn
  go_enter Try.func22, Try.ntmps22
  go_wp2
  generalize hg : w.heap.size = g at *
  have HG := Lib.hid hg
  have hst : Hid (Below g w (w.alloc (.cells (nums .i64 (fillN T n 0)).toArray 3)) ∧ (w.alloc (.cells (nums .i64 (fillN T n 0)).toArray 3)).heap[g]? = some (.cells (nums .i64 (fillN T n 0)).toArray 3 (0, 0))) := Lib.hid (by
    rw [← hg]
    exact ⟨(Below.refl _ w).alloc (Nat.le_refl _) _, blk_new w _⟩)
  clear hmk hg
  go_loopg [19] n (fun kx s19 wr => ∃ (i : Nat) (W : World), W = wr ∧ s19 = .int .i64 i ∧ i ≤ n ∧ n - i ≤ kx ∧ Below g w wr ∧ wr.heap[g]? = some (.cells (nums .i64 (fillN T n i)).toArray 3 (0, 0)))
  case atStart => exact ⟨0, _, rfl, rfl, Nat.zero_le _, Nat.le_refl _, hst.out.1, hst.out.2⟩
  case round =>
    obtain ⟨i, W, rfl, rfl, hi, hk, hb, hblk⟩ := hrel
    have HB := Lib.hid hb
    have HBLK := Lib.hid hblk
    clear hst hb hblk
    by_cases hlt : i < n
    · have hz : decide ((i : Int) < (n : Int)) = true := by simp; omega
      have h0 : (0 : Int) ≤ (i : Int) := by omega
      have hiI : (i : Int) < (n : Int) := by omega
      obtain ⟨p, hp⟩ : ∃ p : Nat, i * (1 + s) = p := ⟨_, rfl⟩
      have hpb : p ≤ 4097 * 256 := by rw [← hp]; exact Nat.mul_le_mul (by have := HN.out; omega) (by have := HS.out; omega)
      have hpI : (i : Int) * (1 + (s : Int)) = (p : Int) := by rw [← hp, Int.natCast_mul, Int.natCast_add]; rfl
      have HW1 : Hid (RowKit.wrap64 (1 + (s : Int)) = 1 + (s : Int)) := Lib.hid (wsmall' rfl (by omega) (by have := HS.out; omega))
      have HW0 : Hid (RowKit.wrap64 (s : Int) = (s : Int)) := Lib.hid (wsmall' rfl (by omega) (by have := HS.out; omega))
      have HW2 : Hid (RowKit.wrap64 (p : Int) = (p : Int)) := Lib.hid (wsmall' rfl (by omega) (by omega))
      have HW3 : Hid (RowKit.wrap64 ((i : Int) + 1) = (i : Int) + 1) := Lib.hid (wsmall' rfl (by omega) (by have := HN.out; omega))
      have hfl : (nums .i64 (fillN T n i)).toArray.size = n := by unfold nums; rw [List.size_toArray, List.length_map, fillN_len T n i HTL.out (by omega)]
      obtain ⟨old, hold⟩ : ∃ old, (nums .i64 (fillN T n i)).toArray[i]? = some old := ⟨_, Array.getElem?_eq_getElem (by omega)⟩
      have hcell : W.cell? ⟨g, i, none⟩ = some old := (blk_cell HBLK.out i).trans hold
      have hfr : W.frozen? ⟨g, i, none⟩ = false := blk_frozen HBLK.out i
      have HNX : Hid ((nums .i64 (fillN T n i)).toArray.setIfInBounds i (.int .i64 (p : Nat)) = (nums .i64 (fillN T n (i + 1))).toArray) := Lib.hid (by
        rw [nums_set, ← fillN_set T i n HTL.out hlt, HAT.out i hlt, hp])
      have HLT := Lib.hid hlt
      have HKX := Lib.hid hk
      clear hp hpb hfl hold hlt hk hi
      have x1 := HW1.out
      have x0 := HW0.out
      have x2 := HW2.out
      have x3 := HW3.out
      go_wp2
      go_roundg (n - (i + 1))
      case measure => clear x0 x1 x2 x3; have := HLT.out; have := HKX.out; omega
      case rel =>
        refine ⟨i + 1, _, rfl, by first | rfl | exact congrArg (Value.int .i64) HW3.out, HLT.out, Nat.le_refl _, HB.out.setCell (Nat.le_refl _) _, ?_⟩
        have h := blk_set HBLK.out i (.int .i64 (p : Nat))
        rw [HNX.out] at h
        exact h
    · obtain rfl : i = n := by omega
      have hz : decide ((i : Int) < (i : Int)) = false := by simp
      have hfull : fillN T i i = T := by unfold fillN; rw [Nat.sub_self, List.replicate_zero, List.append_nil, List.take_of_length_le (by rw [HTL.out]; exact Nat.le_refl _)]
      have hb2 := HBLK.out
      rw [hfull] at hb2
      have hC : Kd.C (Kd.int .i64) W (some ⟨g, 0, none⟩) T.length T := ints_C (by rw [HTL.out]; have := HN.out; omega) (fun _ => ⟨_, rfl, fun j hj => by
        rw [Addr.add_mid, Nat.zero_add]
        refine (blk_cell hb2 j).trans ?_
        unfold nums
        rw [List.getElem?_toArray, List.getElem?_map, List.getD_eq_getElem?_getD, List.getElem?_eq_getElem hj]; rfl⟩)
      by_cases h46 : i ≤ 4096
      · have hd3 : decide ((4096 : Int) < (i : Int)) = false := by simp; omega
        have HBU : Hid (Calls Try.prog 62 #[.slice (some ⟨g, 0, none⟩) i i] W fun e w' => ∃ a gv sv, e = .returned (.tuple #[.pointer (some ⟨a, 0, none⟩), .int .i64 0]) ∧ IsList W.heap.size w' a gv sv T ∧ Below W.heap.size W w') := Lib.hid (by
          have h := build_calls _ i T W hC (by rw [HTL.out]; exact h46)
          rw [HTL.out] at h
          refine h.mono fun e w' hq => ?_
          obtain ⟨h1, h2⟩ := hq
          rcases h1 with ⟨hne, _⟩ | ⟨_, a, gv, sv, he, hl⟩
          · exact absurd (HOK.out h46 HS.out) hne
          · exact ⟨a, gv, sv, he, hl, h2⟩)
        have HSZ : Hid (g ≤ W.heap.size) := Lib.hid (by have := HB.out.size; have := HG.out; omega)
        clear hC hb2 hfull h46 hk hi
        go_wp2_with (first
          | (go_at_call 62; (with_reducible refine HBU.out.mono ?_); rintro e w2 ⟨la, gv, sv, rfl, hl, hb2⟩; have HB2 := Lib.hid hb2
              ; have hk0 := hl.blk; rw [HTL.out] at hk0
              ; have HL := Lib.hid (len_calls la i w2 ((blk_cell hk0 0).trans rfl)); clear hl hb2 hk0)
          | (go_at_call 63; (with_reducible refine HL.out.mono ?_); rintro e w3 ⟨rfl, hw3⟩; obtain rfl := hw3.symm)
          | (go_at_call 36; (with_reducible refine (awake17_true _).mono ?_); rintro e w4 ⟨rfl, hb4⟩; have HB4 := Lib.hid hb4; clear hb4))
        go_ret
        have h2 := HB.out.trans (HB2.out.mono HSZ.out)
        exact ⟨rfl, by rw [HG.out]; exact h2.trans (HB4.out.mono (Nat.le_trans HSZ.out HB2.out.size))⟩
      · have hd3 : decide ((4096 : Int) < (i : Int)) = true := by simp; omega
        have HBU : Hid (Calls Try.prog 62 #[.slice (some ⟨g, 0, none⟩) i i] W fun e w' => e = .returned (.tuple #[.pointer none, .int .i64 2]) ∧ Below W.heap.size W w') := Lib.hid (by
          have h := build_long (some ⟨g, 0, none⟩) i T W (by rw [HTL.out]; omega)
          rw [HTL.out] at h
          refine h.mono fun e w' hq => ?_
          obtain ⟨h1, h2⟩ := hq
          have he2 := HLO.out (by omega)
          rcases h1 with ⟨_, he⟩ | ⟨h0, _⟩
          · rw [he2] at he; exact ⟨he, h2⟩
          · rw [he2] at h0; cases h0)
        have HSZ : Hid (g ≤ W.heap.size) := Lib.hid (by have := HB.out.size; have := HG.out; omega)
        clear hC hb2 hfull h46 hk hi
        go_wp2_with (first
          | (go_at_call 62; (with_reducible refine HBU.out.mono ?_); rintro e w2 ⟨rfl, hb2⟩; have HB2 := Lib.hid hb2; clear hb2)
          | (go_at_call 36; (with_reducible refine (awake17_true _).mono ?_); rintro e w4 ⟨rfl, hb4⟩; have HB4 := Lib.hid hb4; clear hb4))
        go_ret
        have h2 := HB.out.trans (HB2.out.mono HSZ.out)
        exact ⟨rfl, by rw [HG.out]; exact h2.trans (HB4.out.mono (Nat.le_trans HSZ.out HB2.out.size))⟩
end Go.Proofs.Ytmeojlamadcedaa
namespace Go.Proofs.Ytmeojlamadcedaa.Given
open Go.RowKit Go.Sort Go.Proofs.YtmeojlamadcedaaW.PrintWords Go.Proofs.YtmeojlamadcedaaW.PrintLast
def corporalaw17_PostingsLimits.f (_a0 a1 : Int) : Option Bool := if 0 ≤ a1 ∧ a1 < 256 then some true else none
theorem corporalaw17_PostingsLimits.calls (a0 : Int) (a1 : Int) (r : Bool) (w : World) (h : corporalaw17_PostingsLimits.f a0 a1 = some r) :
    Calls Try.prog 22 #[.int .i64 a0, .int .u8 a1] w fun e w' => e = .returned (.bool r) ∧ Below w.heap.size w w' := by
  unfold corporalaw17_PostingsLimits.f at h
  split at h
  · rename_i hs
    obtain rfl := Option.some.inj h
    by_cases ho : a0 < 0 ∨ 4097 < a0
    · exact limits_out a0 a1 w ho
    · have h := limits_in a0.toNat a1.toNat w (by omega) (by omega)
      rw [Int.toNat_of_nonneg (by omega), Int.toNat_of_nonneg (by omega)] at h
      exact h
  · cases h
end Go.Proofs.Ytmeojlamadcedaa.Given
