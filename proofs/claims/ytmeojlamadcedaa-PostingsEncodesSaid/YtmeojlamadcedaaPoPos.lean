/- postings.positions.
   Conditions: those of the theorems. -/
import Derived.Test.YtmeojlamadcedaaPoP
import Derived.Test.YtmeojlamadcedaaPoDec
namespace Go.Proofs.Ytmeojlamadcedaa
set_option linter.unusedSimpArgs false
open Go.RowKit Go.Sort Go.Proofs.YtmeojlamadcedaaW.PrintWords Go.Proofs.YtmeojlamadcedaaW.PrintLast

/-- What positions leaves behind. -/
def PosPost (n m : Nat) (r : List UInt8) (w : World) (e : Ending) (w' : World) : Prop :=
  (Po.gaps n m r = none ∧ e = .returned (.tuple #[.slice none 0 0, .bool false]) ∨
    ∃ l v, Po.gaps n m r = some l ∧ l.length = n ∧ e = .returned (.tuple #[v, .bool true]) ∧ w'.ownsRow w.heap.size 3 1 v l.length (nums .i64 l)) ∧ Below w.heap.size w w'

theorem pos_bad (A : Option Addr) (c m n k : Nat) (w : World) (hn : 8 * m < n) (hsm : m < 1000000000) :
    Calls Try.prog 73 #[.slice A m c, .int .i64 (n : Nat), .int .i64 (k : Nat)] w fun e w' => e = .returned (.tuple #[.slice none 0 0, .bool false]) ∧ Below w.heap.size w w' := by
  have HN := Lib.hid (newR_bad A c m n w hn hsm)
  clear hn hsm
  go_enter Try.func73, Try.ntmps73
  go_wp2_with (go_at_call 94; (with_reducible refine HN.out.mono ?_); rintro e w1 ⟨rfl, hb⟩; have HB1 := Lib.hid hb; clear hb)
  go_ret2
  exact ⟨rfl, HB1.out⟩

set_option maxHeartbeats 4000000 in
set_option maxRecDepth 100000 in
theorem pos_calls (A : Option Addr) (c n m : Nat) (r : List UInt8) (w : World) (hr : ReadsInt w .u8 A r.length (Given.ints r)) (hc : r.length ≤ c) (hm : m ≤ 8 * r.length) (hn : n ≤ 4096) (hsm : r.length < 1000000) :
    Calls Try.prog 73 #[.slice A r.length c, .int .i64 (m : Nat), .int .i64 (n : Nat)] w fun e w' => PosPost n m r w e w' := by
  have HN := Lib.hid (newR_calls A c m r w hr hc hm (by omega))
  have HG : Hid (Po.gaps n m r = (Po.gst (Po.unpack r m) n).map fun s => s.2.2) := Lib.hid rfl
  obtain ⟨bl, hbl⟩ : ∃ bl, Po.unpack r m = bl := ⟨_, rfl⟩
  obtain ⟨by_, hby⟩ : ∃ b, r.take ((m + 7) / 8) = b := ⟨_, rfl⟩
  rw [hbl, hby] at HN
  rw [hbl] at HG
  have HN4 := Lib.hid hn
  clear hbl hby hr hm hsm hn hc
  go_enter Try.func73, Try.ntmps73
  go_wp2_with (go_at_call 94; (with_reducible refine HN.out.mono ?_); rintro e w1 ⟨ra, rv, rfl, hrd, hb⟩; have HRD := Lib.hid hrd; have HB1 := Lib.hid hb; clear hrd hb)
  have HRA := Lib.hid HRD.out.low
  have HFB : Hid (∀ W W2, Below w.heap.size w W → Fr (fun k => k = ra) W W2 → Below w.heap.size w W2) := Lib.hid (fun W W2 h1 h2 => Fr.after h1 h2 h1.size (fun i hi he => by have := HRA.out; omega))
  go_loopg [10, 11, 23] n (fun kx s10 s11 s23 wr => ∃ (i p : Nat) (last : Int) (acc : List Int) (m1 : Nat) (W : World), W = wr ∧ s11 = .int .i64 last ∧ s23 = .int .i64 i ∧ i ≤ n ∧ n - i ≤ kx ∧ Po.gst bl i = some (p, last, acc) ∧ Rd w.heap.size wr ra rv by_ bl p ∧ m1 = acc.length ∧ wr.ownsRow w.heap.size 3 1 s10 m1 (nums .i64 acc) ∧ Below w.heap.size w wr)
  case atStart => exact ⟨0, 0, -1, [], 0, _, rfl, rfl, rfl, Nat.zero_le _, by omega, rfl, HRD.out, rfl, World.ownsRow_nil _ _ _ _, HB1.out⟩
  case round =>
    obtain ⟨i, p, last, acc, m1, W, rfl, rfl, rfl, hi, hk, hst, hrdW, hm1, hown, hbel⟩ := hrel
    obtain ⟨oA, oC, rfl⟩ := own_slice hown
    have HRW := Lib.hid hrdW
    have HOWN := Lib.hid hown
    have HBW := Lib.hid hbel
    have HST := Lib.hid hst
    have HM1 := Lib.hid hm1
    have HKX := Lib.hid hk
    have hinv := Po.gst_inv bl i _ hst
    have hlo : -1 ≤ last := hinv.2.1
    have hhi : last ≤ 2147483648 * (i : Int) := hinv.2.2.1
    have HAL : Hid (acc.length = i) := Lib.hid hinv.2.2.2
    have HI := Lib.hid hi
    clear hrdW hown hbel hst hm1 hk hinv
    by_cases hlt : i < n
    · have hz : decide ((i : Int) < (n : Int)) = true := by simp; omega
      obtain ⟨D, hD⟩ : ∃ D, Po.deltaF bl p = D := ⟨_, rfl⟩
      obtain ⟨g, p2, er⟩ := D
      have H95 : Hid (Calls Try.prog 95 #[.pointer (some ⟨ra, 0, none⟩)] W fun e w' => e = .returned (.tuple #[.int .u64 (g : Nat), .int .i64 er]) ∧ Rd w.heap.size w' ra rv by_ bl p2 ∧ Fr (fun k => k = ra) W w') := Lib.hid (by
        refine (deltaR_calls w.heap.size ra p rv by_ bl W HRW.out).mono fun e w' hq => ?_
        obtain ⟨h1, h2, h3⟩ := hq
        rw [hD] at h1 h2
        exact ⟨h1, h2, h3⟩)
      have HLT := Lib.hid hlt
      by_cases hbad : er ≠ 0 ∨ 2147483648 < g
      · have hnone := Po.gst_none bl (i + 1) (Po.gst_bad bl i _ HST.out (by show (Po.deltaF bl p).2.2 ≠ 0 ∨ 2147483648 < (Po.deltaF bl p).1; rw [hD]; exact hbad)) n (by omega)
        have HNO : Hid (Po.gaps n m r = none) := Lib.hid (by rw [HG.out, hnone]; rfl)
        have hcases : (er ≠ 0) ∨ (er = 0 ∧ 2147483648 < g) := by
          by_cases h : er = 0
          · exact .inr ⟨h, by rcases hbad with h2 | h2; exact absurd h h2; exact h2⟩
          · exact .inl h
        clear hD hbad hnone hlo hhi hi hlt
        rcases hcases with h1 | ⟨rfl, h1⟩
        · have hd1 : decide (er = 0) = false := by simpa using h1
          have hd2 : (er == 0) = false := by simpa using h1
          have hd3 : (er != 0) = true := by simpa using h1
          go_wp2_with (go_at_call 95; (with_reducible refine H95.out.mono ?_); rintro e w4 ⟨rfl, hrd4, hf4⟩; have HB4 := Lib.hid (HFB.out _ _ HBW.out hf4); clear hrd4 hf4)
          go_ret2
          exact ⟨.inl ⟨HNO.out, rfl⟩, HB4.out⟩
        · have hd1 : decide ((2147483648 : Int) < (g : Int)) = true := by simp; omega
          go_wp2_with (go_at_call 95; (with_reducible refine H95.out.mono ?_); rintro e w4 ⟨rfl, hrd4, hf4⟩; have HB4 := Lib.hid (HFB.out _ _ HBW.out hf4); clear hrd4 hf4)
          go_ret2
          exact ⟨.inl ⟨HNO.out, rfl⟩, HB4.out⟩
      · obtain ⟨rfl, hg⟩ : er = 0 ∧ g ≤ 2147483648 := by omega
        have HNX := Lib.hid (Po.gst_good bl i _ HST.out (by show ¬ ((Po.deltaF bl p).2.2 ≠ 0 ∨ 2147483648 < (Po.deltaF bl p).1); rw [hD]; exact hbad))
        have HNX2 : Hid (Po.gst bl (i + 1) = some (p2, last + (g : Nat), acc ++ [last + (g : Nat)])) := Lib.hid (by
          have h := HNX.out
          dsimp only at h
          rw [hD] at h
          exact h)
        have hd1 : decide ((2147483648 : Int) < (g : Int)) = false := by simp; omega
        have hn4 := HN4.out
        have HW1 : Hid (RowKit.wrap64 (g : Int) = (g : Int)) := Lib.hid (wsmall' rfl (by omega) (by omega))
        have hlast2 : last ≤ 8796093022208 := by omega
        have HW2 : Hid (RowKit.wrap64 (last + (g : Int)) = last + (g : Int)) := Lib.hid (by
          have h1 : -1 ≤ last := hlo
          unfold RowKit.wrap64; omega)
        have HW3 : Hid (RowKit.wrap64 ((i : Int) + 1) = (i : Int) + 1) := Lib.hid (wsmall' rfl (by omega) (by omega))
        have hne : Hid (∀ b, (Value.slice oA m1 oC).ownBlock = some b → ¬ b = ra) := Lib.hid (fun b hb e => own_apart HOWN.out HRW.out.blk (by decide) (e ▸ hb))
        have HNL : Hid ((nums .i64 acc).length = m1) := Lib.hid (by rw [HM1.out, nums, List.length_map])
        have HMX : Hid (((nums .i64 acc).length + 1) * 8 ≤ 140737488355328) := Lib.hid (by rw [HNL.out, HM1.out]; have := HAL.out; omega)
        obtain ⟨nx, hnx⟩ : ∃ x, last + (g : Int) = x := ⟨_, rfl⟩
        have HNS : Hid (nums .i64 acc ++ [.int .i64 nx] = nums .i64 (acc ++ [nx])) := Lib.hid (by rw [nums_append]; rfl)
        rw [hnx] at HW2 HNX2
        clear hD hbad hlo hhi hlast2 hi hlt hg hn4 HNX
        generalize nums .i64 acc = ns at *
        have x1 := HW1.out
        have x2 := HW2.out
        have x3 := HW3.out
        go_wp2_with (first
          | (go_at_call 95; (with_reducible refine H95.out.mono ?_); rintro e w4 ⟨rfl, hrd4, hf4⟩
              ; have ho4 := hf4.own HOWN.out hne.out
              ; have ho4' : w4.ownsRow w.heap.size 3 1 (.slice oA m1 oC) ns.length ns := (by rw [HNL.out]; exact ho4)
              ; have HO4 := Lib.hid ho4'; have HRD4 := Lib.hid hrd4; have HB4 := Lib.hid (HFB.out _ _ HBW.out hf4); clear hrd4 hf4 ho4 ho4')
          | ((with_reducible refine gate_dst (N := 43) rfl ?_); refine print_append (w0 := w) (W := w4) w.heap.size rfl (.tmp 40) (.tmp 42) 38 3 (.int .i64 0) 8 rfl (show Try.prog.underlying 38 = some (.slice 3) by kernel_rfl) (by kernel_rfl) rfl (by decide) (.slice oA m1 oC) ns (.int .i64 nx) rfl rfl rfl HO4.out HB4.out HB4.out.size HMX.out ?_
              ; intro v5 w5 hown5 hb5 hgr5 _
              ; have HO5 := Lib.hid hown5; have HB5 := Lib.hid hb5; have HG5 := Lib.hid hgr5; clear hown5 hb5 hgr5))
        go_roundg (n - (i + 1))
        case measure => clear x1 x2 x3; have := HKX.out; have := HLT.out; omega
        case rel =>
          clear x1 x2 x3
          have h5 := HO5.out
          rw [HNS.out] at h5
          refine ⟨i + 1, p2, nx, acc ++ [nx], _, _, rfl, by first | rfl | exact congrArg (Value.int .i64) HW2.out, by first | exact congrArg (Value.int .i64) HW3.out | rfl, HLT.out, Nat.le_refl _, HNX2.out, ?_, by rw [nums, List.length_map], h5, HB5.out⟩
          have hne4 := own_apart HO4.out HRD4.out.blk (by decide)
          have hrow4 := own_own HRD4.out.row HO4.out (by decide)
          have hf : Fr (fun b => (Value.slice oA m1 oC).ownBlock = some b) w4 w5 := (Fr.refl _ w4).grown HG5.out (fun b _ hb => hb)
          exact ⟨HRD4.out.low, hf.blk HRD4.out.blk hne4, hf.own HRD4.out.row hrow4, HRD4.out.size, HRD4.out.small, HRD4.out.at_, HRD4.out.bits⟩
    · have hz : decide ((i : Int) < (n : Int)) = false := by simp; omega
      have HIN : Hid (i = n) := Lib.hid (by omega)
      have hz2 : n ≤ i := by omega
      clear hlt hi hlo hhi
      go_wp2
      go_ret2
      refine ⟨.inr ⟨acc, _, by rw [HG.out, ← HIN.out, HST.out]; rfl, by have := HAL.out; rw [← HIN.out]; exact this, rfl, ?_⟩, HBW.out⟩
      have h := HOWN.out
      rw [HM1.out] at h ⊢
      exact h
end Go.Proofs.Ytmeojlamadcedaa
