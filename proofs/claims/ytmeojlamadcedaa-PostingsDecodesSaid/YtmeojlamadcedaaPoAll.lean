/- postings.List: All; corporaref12.SameInts on two rows of the same numbers; PostingsBuilds.
   Conditions: those of the theorems. -/
import Derived.Test.YtmeojlamadcedaaPoSk
import Derived.RegionTactic

namespace Go.Proofs.Ytmeojlamadcedaa
set_option linter.unusedSimpArgs false
open Go.RowKit Go.Sort Go.Proofs.YtmeojlamadcedaaW.PrintWords Go.Proofs.YtmeojlamadcedaaW.PrintLast

theorem own_readsI {w : World} {base n c : Nat} {A : Option Addr} {l : List Int} (h : w.ownsRow base 3 1 (.slice A n c) n (nums .i64 l)) : ReadsInt w .i64 A n l := own_reads' h
theorem take_part (l : List Int) (k : Nat) : l.take (16 * (k + 1)) = l.take (16 * k) ++ part l k := by
  unfold part
  rw [show 16 * (k + 1) = 16 * k + 16 by omega, List.take_add]

set_option maxHeartbeats 4000000 in
set_option maxRecDepth 100000 in
theorem all_calls (base la : Nat) (gv sv : Value) (l : List Int) (w : World) (hL : IsList base w la gv sv l) :
    Calls Try.prog 42 #[.pointer (some ⟨la, 0, none⟩)] w fun e w' => ∃ v, e = .returned v ∧ w'.ownsRow w.heap.size 3 1 v l.length (nums .i64 l) ∧ Below w.heap.size w w' := by
  obtain ⟨sA, sc, rfl⟩ := own_slice hL.skips
  have HL := Lib.hid hL
  have hlen := hL.len
  have c3 : w.cell? ⟨la, 3, none⟩ = some (.slice sA (Po.cnt l.length) sc) := (blk_cell hL.blk 3).trans rfl
  obtain ⟨cn, hcn⟩ : ∃ cn, Po.cnt l.length = cn := ⟨_, rfl⟩
  have HCN : Hid (cn = (l.length + 15) / 16) := Lib.hid hcn.symm
  have HPA : Hid (∀ k W, k < cn → Below w.heap.size w W → Calls Try.prog 80 #[.pointer (some ⟨la, 0, none⟩), .int .i64 (k : Nat)] W fun e w' => ∃ v, e = .returned v ∧ w'.ownsRow W.heap.size 3 1 v (part l k).length (nums .i64 (part l k)) ∧ Below W.heap.size W w') := Lib.hid (fun k W hk hW => part_calls base la gv _ l k W (HL.out.later hW) (by rw [hcn]; exact hk))
  have HLEN := Lib.hid hlen
  rw [hcn] at c3
  clear hL hcn hlen
  go_enter Try.func42, Try.ntmps42
  go_wp2
  go_loopg [3, 10] 300 (fun kx s3 s10 wr => ∃ (k : Nat) (m : Nat) (W : World), W = wr ∧ s10 = .int .i64 k ∧ k ≤ cn ∧ 300 - k ≤ kx ∧ m = (l.take (16 * k)).length ∧ wr.ownsRow w.heap.size 3 1 s3 m (nums .i64 (l.take (16 * k))) ∧ Below w.heap.size w wr)
  case atStart => exact ⟨0, 0, _, rfl, rfl, Nat.zero_le _, by omega, by simp, World.ownsRow_nil _ _ _ _, Below.refl _ _⟩
  case round =>
    obtain ⟨k, m, W, rfl, rfl, hk, hkx, hm, hown, hb⟩ := hrel
    obtain ⟨oA, oC, rfl⟩ := own_slice hown
    have HBW := Lib.hid hb
    have HOWN := Lib.hid hown
    have HM := Lib.hid hm
    clear hown hb hm
    by_cases hlt : k < cn
    · have hz : decide ((k : Int) < (cn : Int)) = true := by simp; omega
      have HP := Lib.hid (HPA.out k W hlt HBW.out)
      have HTP := Lib.hid (take_part l k)
      have HLT := Lib.hid hlt
      have HKX := Lib.hid hkx
      have HPL : Hid ((part l k).length ≤ 16 ∧ m ≤ 5000) := Lib.hid ⟨by rw [part_len]; omega, by rw [HM.out, List.length_take]; have := HLEN.out; omega⟩
      have HW2 : Hid (RowKit.wrap64 ((k : Int) + 1) = (k : Int) + 1) := Lib.hid (wsmall' rfl (by omega) (by have h1 := HLEN.out; have h2 := HCN.out; omega))
      obtain ⟨pp, hpp⟩ : ∃ pp, part l k = pp := ⟨_, rfl⟩
      obtain ⟨tt, htt⟩ : ∃ tt, l.take (16 * k) = tt := ⟨_, rfl⟩
      rw [hpp, htt] at HTP
      rw [hpp] at HP HPL
      rw [htt] at HOWN HM
      have HOWN2 : Hid (W.ownsRow w.heap.size 3 1 (.slice oA m oC) tt.length (nums .i64 tt)) := Lib.hid (by rw [← HM.out]; exact HOWN.out)
      have HMX : Hid ((tt.length + pp.length) * 8 ≤ 140737488355328) := Lib.hid (by rw [← HM.out]; have h1 := HPL.out; omega)
      clear hpp htt hlt hkx hk
      have x2 := HW2.out
      go_wp2_with (first
        | (go_at_call 80; (with_reducible refine HP.out.mono ?_); rintro e w2 ⟨pv, rfl, ho, hb⟩
            ; obtain ⟨pA, pC, rfl⟩ := own_slice ho
            ; have HRD := Lib.hid (own_readsI ho); have HO2 := Lib.hid (own_later HOWN2.out hb); have HBB := Lib.hid (HBW.out.trans (hb.mono HBW.out.size)); clear ho hb)
        | ((with_reducible refine gate_dst (N := 17) rfl ?_); refine print_append_row (w0 := w) (W := w2) w.heap.size rfl (.tmp 13) (.tmp 16) 38 3 .i64 8 rfl (show Try.prog.underlying 38 = some (.slice 3) by kernel_rfl) (by kernel_rfl) (by decide) (.slice oA m oC) tt pp pA pp.length pC rfl rfl HO2.out HRD.out HBB.out HBB.out.size HMX.out ?_
            ; intro v3 w3 ho3 hb3 _ _; have HO3 := Lib.hid ho3; have HB3 := Lib.hid hb3; clear ho3 hb3))
      go_roundg (300 - (k + 1))
      case measure => clear x2; have := HKX.out; have h1 := HLT.out; have h2 := HCN.out; have h3 := HLEN.out; omega
      case rel => exact ⟨k + 1, _, _, rfl, by first | rfl | exact congrArg (Value.int .i64) HW2.out, HLT.out, Nat.le_refl _, by rw [HTP.out], by rw [HTP.out]; exact HO3.out, HB3.out⟩
    · have hz : decide ((k : Int) < (cn : Int)) = false := by simp; omega
      have HFULL : Hid (l.take (16 * k) = l) := Lib.hid (List.take_of_length_le (by have := HCN.out; omega))
      have hz2 : cn ≤ k := by omega
      clear hk hkx hlt
      go_wp2
      go_ret
      have h1 := HOWN.out
      have h2 := HM.out
      rw [HFULL.out] at h1 h2
      exact ⟨_, rfl, by rw [← h2]; exact h1, HBW.out⟩

set_option maxHeartbeats 4000000 in
set_option maxRecDepth 100000 in
theorem same_calls (A B : Option Addr) (c d : Nat) (l : List Int) (w : World) (h1 : ReadsInt w .i64 A l.length l) (h2 : ReadsInt w .i64 B l.length l) (hlen : l.length ≤ 1000000) :
    Calls Try.prog 41 #[.slice A l.length c, .slice B l.length d] w fun e w' => e = .returned (.bool true) ∧ ∃ q, w' = w.drewN q := by
  have H1 := Lib.hid h1
  have H2 := Lib.hid h2
  have HLEN := Lib.hid hlen
  obtain ⟨n, hn⟩ : ∃ n, l.length = n := ⟨_, rfl⟩
  rw [hn] at H1 H2 HLEN ⊢
  clear h1 h2 hlen hn
  go_enter Try.func41, Try.ntmps41
  go_wp2
  go_loopg [13] n (fun kx s13 wr => ∃ (i q : Nat), s13 = .int .i64 i ∧ i ≤ n ∧ n - i ≤ kx ∧ wr = w.drewN q)
  case atStart => exact ⟨0, 0, rfl, Nat.zero_le _, Nat.le_refl _, rfl⟩
  case round =>
    obtain ⟨i, q, rfl, hi, hk, rfl⟩ := hrel
    by_cases hlt : i < n
    · have hz : decide ((i : Int) < (n : Int)) = true := by simp; omega
      have hi0 : (0 : Int) ≤ (i : Int) := by omega
      have hiI : (i : Int) < (n : Int) := by omega
      obtain ⟨ad, had, hc1⟩ := H1.out.2.2 (by omega)
      obtain ⟨bd, hbd, hc2⟩ := H2.out.2.2 (by omega)
      subst had hbd
      obtain ⟨x, hx⟩ : ∃ x, l.getD i 0 = x := ⟨_, rfl⟩
      have e1 : w.cell? (ad.add i) = some (.int .i64 x) := by rw [← hx]; exact hc1 i hlt
      have e2 : w.cell? (bd.add i) = some (.int .i64 x) := by rw [← hx]; exact hc2 i hlt
      have HW2 : Hid (RowKit.wrap64 ((i : Int) + 1) = (i : Int) + 1) := Lib.hid (wsmall' rfl (by omega) (by have := HLEN.out; omega))
      have HLT := Lib.hid hlt
      have HKX := Lib.hid hk
      clear hx hc1 hc2 hk hi hlt
      have x2 := HW2.out
      go_wp2
      go_region
      all_goals go_wp2
      all_goals go_roundg (n - (i + 1))
      all_goals first
        | (case measure => clear x2; have := HKX.out; have := HLT.out; omega)
        | skip
      all_goals exact ⟨i + 1, q + 1, by first | rfl | exact congrArg (Value.int .i64) HW2.out, HLT.out, Nat.le_refl _, rfl⟩
    · have hz : decide ((i : Int) < (n : Int)) = false := by simp; omega
      have hz2 : n ≤ i := by omega
      clear hk hi hlt
      go_wp2
      go_ret
      exact ⟨rfl, q, rfl⟩
end Go.Proofs.Ytmeojlamadcedaa
