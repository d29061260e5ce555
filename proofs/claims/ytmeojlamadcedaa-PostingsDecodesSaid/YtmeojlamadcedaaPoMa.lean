/- postings.positions and postings.Decode: the walks, what they come to.
   Conditions: those of the theorems. -/
import Derived.Test.YtmeojlamadcedaaPoP
import Derived.Test.YtmeojlamadcedaaPoDec
import Derived.Test.YtmeojlamadcedaaPoBs

namespace Go.Proofs.Ytmeojlamadcedaa
set_option linter.unusedSimpArgs false
open Go.RowKit Go.Sort Go.Proofs.YtmeojlamadcedaaW.PrintWords Go.Proofs.YtmeojlamadcedaaW.PrintLast

/-- What positions leaves behind. -/
def PosPost (n m : Nat) (r : List UInt8) (w : World) (e : Ending) (w' : World) : Prop :=
  (Po.gaps n m r = none ∧ e = .returned (.tuple #[.slice none 0 0, .bool false]) ∨
    ∃ l v, Po.gaps n m r = some l ∧ l.length = n ∧ e = .returned (.tuple #[v, .bool true]) ∧ w'.ownsRow w.heap.size 3 1 v l.length (nums .i64 l)) ∧ Below w.heap.size w w'

theorem pos_bad (A : Option Addr) (c m n k : Nat) (w : World) (hn : 8 * m < n) (hsm : m < 1000000000) :
    Calls Try.prog 73 #[.slice A m c, .int .i64 (n : Nat), .int .i64 (k : Nat)] w fun e w' => e = .returned (.tuple #[.slice none 0 0, .bool false]) ∧ Below w.heap.size w w' := by
  have HN := Lib.hid (newR_bad A c m n w hn hsm)
  clear hn hsm
  go_enter Try.func73, Try.ntmps73
  go_wp2_with (go_at_call 94; (with_reducible refine HN.out.mono ?_); rintro e w1 ⟨rfl, hb⟩; have HB1 := Lib.hid hb; clear hb)
  go_ret2
  exact ⟨rfl, HB1.out⟩

set_option maxHeartbeats 4000000 in
set_option maxRecDepth 100000 in
theorem pos_calls (A : Option Addr) (c n m : Nat) (r : List UInt8) (w : World) (hr : ReadsInt w .u8 A r.length (Given.ints r)) (hc : r.length ≤ c) (hm : m ≤ 8 * r.length) (hn : n ≤ 4096) (hsm : r.length < 1000000) :
    Calls Try.prog 73 #[.slice A r.length c, .int .i64 (m : Nat), .int .i64 (n : Nat)] w fun e w' => PosPost n m r w e w' := by
  have HN := Lib.hid (newR_calls A c m r w hr hc hm (by omega))
  have HG : Hid (Po.gaps n m r = (Po.gst (Po.unpack r m) n).map fun s => s.2.2) := Lib.hid rfl
  obtain ⟨bl, hbl⟩ : ∃ bl, Po.unpack r m = bl := ⟨_, rfl⟩
  obtain ⟨by_, hby⟩ : ∃ b, r.take ((m + 7) / 8) = b := ⟨_, rfl⟩
  rw [hbl, hby] at HN
  rw [hbl] at HG
  have HN4 := Lib.hid hn
  clear hbl hby hr hm hsm hn hc
  go_enter Try.func73, Try.ntmps73
  go_wp2_with (go_at_call 94; (with_reducible refine HN.out.mono ?_); rintro e w1 ⟨ra, rv, rfl, hrd, hb⟩; have HRD := Lib.hid hrd; have HB1 := Lib.hid hb; clear hrd hb)
  have HRA := Lib.hid HRD.out.low
  have HFB : Hid (∀ W W2, Below w.heap.size w W → Fr (fun k => k = ra) W W2 → Below w.heap.size w W2) := Lib.hid (fun W W2 h1 h2 => Fr.after h1 h2 h1.size (fun i hi he => by have := HRA.out; omega))
  go_loopg [10, 11, 23] n (fun kx s10 s11 s23 wr => ∃ (i p : Nat) (last : Int) (acc : List Int) (m1 : Nat) (W : World), W = wr ∧ s11 = .int .i64 last ∧ s23 = .int .i64 i ∧ i ≤ n ∧ n - i ≤ kx ∧ Po.gst bl i = some (p, last, acc) ∧ Rd w.heap.size wr ra rv by_ bl p ∧ m1 = acc.length ∧ wr.ownsRow w.heap.size 3 1 s10 m1 (nums .i64 acc) ∧ Below w.heap.size w wr)
  case atStart => exact ⟨0, 0, -1, [], 0, _, rfl, rfl, rfl, Nat.zero_le _, by omega, rfl, HRD.out, rfl, World.ownsRow_nil _ _ _ _, HB1.out⟩
  case round =>
    obtain ⟨i, p, last, acc, m1, W, rfl, rfl, rfl, hi, hk, hst, hrdW, hm1, hown, hbel⟩ := hrel
    obtain ⟨oA, oC, rfl⟩ := own_slice hown
    have HRW := Lib.hid hrdW
    have HOWN := Lib.hid hown
    have HBW := Lib.hid hbel
    have HST := Lib.hid hst
    have HM1 := Lib.hid hm1
    have HKX := Lib.hid hk
    have hinv := Po.gst_inv bl i _ hst
    have hlo : -1 ≤ last := hinv.2.1
    have hhi : last ≤ 2147483648 * (i : Int) := hinv.2.2.1
    have HAL : Hid (acc.length = i) := Lib.hid hinv.2.2.2
    have HI := Lib.hid hi
    clear hrdW hown hbel hst hm1 hk hinv
    by_cases hlt : i < n
    · have hz : decide ((i : Int) < (n : Int)) = true := by simp; omega
      obtain ⟨D, hD⟩ : ∃ D, Po.deltaF bl p = D := ⟨_, rfl⟩
      obtain ⟨g, p2, er⟩ := D
      have H95 : Hid (Calls Try.prog 95 #[.pointer (some ⟨ra, 0, none⟩)] W fun e w' => e = .returned (.tuple #[.int .u64 (g : Nat), .int .i64 er]) ∧ Rd w.heap.size w' ra rv by_ bl p2 ∧ Fr (fun k => k = ra) W w') := Lib.hid (by
        refine (deltaR_calls w.heap.size ra p rv by_ bl W HRW.out).mono fun e w' hq => ?_
        obtain ⟨h1, h2, h3⟩ := hq
        rw [hD] at h1 h2
        exact ⟨h1, h2, h3⟩)
      have HLT := Lib.hid hlt
      by_cases hbad : er ≠ 0 ∨ 2147483648 < g
      · have hnone := Po.gst_none bl (i + 1) (Po.gst_bad bl i _ HST.out (by show (Po.deltaF bl p).2.2 ≠ 0 ∨ 2147483648 < (Po.deltaF bl p).1; rw [hD]; exact hbad)) n (by omega)
        have HNO : Hid (Po.gaps n m r = none) := Lib.hid (by rw [HG.out, hnone]; rfl)
        have hcases : (er ≠ 0) ∨ (er = 0 ∧ 2147483648 < g) := by
          by_cases h : er = 0
          · exact .inr ⟨h, by rcases hbad with h2 | h2; exact absurd h h2; exact h2⟩
          · exact .inl h
        clear hD hbad hnone hlo hhi hi hlt
        rcases hcases with h1 | ⟨rfl, h1⟩
        · have hd1 : decide (er = 0) = false := by simpa using h1
          have hd2 : (er == 0) = false := by simpa using h1
          have hd3 : (er != 0) = true := by simpa using h1
          go_wp2_with (go_at_call 95; (with_reducible refine H95.out.mono ?_); rintro e w4 ⟨rfl, hrd4, hf4⟩; have HB4 := Lib.hid (HFB.out _ _ HBW.out hf4); clear hrd4 hf4)
          go_ret2
          exact ⟨.inl ⟨HNO.out, rfl⟩, HB4.out⟩
        · have hd1 : decide ((2147483648 : Int) < (g : Int)) = true := by simp; omega
          go_wp2_with (go_at_call 95; (with_reducible refine H95.out.mono ?_); rintro e w4 ⟨rfl, hrd4, hf4⟩; have HB4 := Lib.hid (HFB.out _ _ HBW.out hf4); clear hrd4 hf4)
          go_ret2
          exact ⟨.inl ⟨HNO.out, rfl⟩, HB4.out⟩
      · obtain ⟨rfl, hg⟩ : er = 0 ∧ g ≤ 2147483648 := by omega
        have HNX := Lib.hid (Po.gst_good bl i _ HST.out (by show ¬ ((Po.deltaF bl p).2.2 ≠ 0 ∨ 2147483648 < (Po.deltaF bl p).1); rw [hD]; exact hbad))
        have HNX2 : Hid (Po.gst bl (i + 1) = some (p2, last + (g : Nat), acc ++ [last + (g : Nat)])) := Lib.hid (by
          have h := HNX.out
          dsimp only at h
          rw [hD] at h
          exact h)
        have hd1 : decide ((2147483648 : Int) < (g : Int)) = false := by simp; omega
        have hn4 := HN4.out
        have HW1 : Hid (RowKit.wrap64 (g : Int) = (g : Int)) := Lib.hid (wsmall' rfl (by omega) (by omega))
        have hlast2 : last ≤ 8796093022208 := by omega
        have HW2 : Hid (RowKit.wrap64 (last + (g : Int)) = last + (g : Int)) := Lib.hid (by
          have h1 : -1 ≤ last := hlo
          unfold RowKit.wrap64; omega)
        have HW3 : Hid (RowKit.wrap64 ((i : Int) + 1) = (i : Int) + 1) := Lib.hid (wsmall' rfl (by omega) (by omega))
        have hne : Hid (∀ b, (Value.slice oA m1 oC).ownBlock = some b → ¬ b = ra) := Lib.hid (fun b hb e => own_apart HOWN.out HRW.out.blk (by decide) (e ▸ hb))
        have HNL : Hid ((nums .i64 acc).length = m1) := Lib.hid (by rw [HM1.out, nums, List.length_map])
        have HMX : Hid (((nums .i64 acc).length + 1) * 8 ≤ 140737488355328) := Lib.hid (by rw [HNL.out, HM1.out]; have := HAL.out; omega)
        obtain ⟨nx, hnx⟩ : ∃ x, last + (g : Int) = x := ⟨_, rfl⟩
        have HNS : Hid (nums .i64 acc ++ [.int .i64 nx] = nums .i64 (acc ++ [nx])) := Lib.hid (by rw [nums_append]; rfl)
        rw [hnx] at HW2 HNX2
        clear hD hbad hlo hhi hlast2 hi hlt hg hn4 HNX
        generalize nums .i64 acc = ns at *
        have x1 := HW1.out
        have x2 := HW2.out
        have x3 := HW3.out
        go_wp2_with (first
          | (go_at_call 95; (with_reducible refine H95.out.mono ?_); rintro e w4 ⟨rfl, hrd4, hf4⟩
              ; have ho4 := hf4.own HOWN.out hne.out
              ; have ho4' : w4.ownsRow w.heap.size 3 1 (.slice oA m1 oC) ns.length ns := (by rw [HNL.out]; exact ho4)
              ; have HO4 := Lib.hid ho4'; have HRD4 := Lib.hid hrd4; have HB4 := Lib.hid (HFB.out _ _ HBW.out hf4); clear hrd4 hf4 ho4 ho4')
          | ((with_reducible refine gate_dst (N := 43) rfl ?_); refine print_append (w0 := w) (W := w4) w.heap.size rfl (.tmp 40) (.tmp 42) 38 3 (.int .i64 0) 8 rfl (show Try.prog.underlying 38 = some (.slice 3) by kernel_rfl) (by kernel_rfl) rfl (by decide) (.slice oA m1 oC) ns (.int .i64 nx) rfl rfl rfl HO4.out HB4.out HB4.out.size HMX.out ?_
              ; intro v5 w5 hown5 hb5 hgr5 _
              ; have HO5 := Lib.hid hown5; have HB5 := Lib.hid hb5; have HG5 := Lib.hid hgr5; clear hown5 hb5 hgr5))
        go_roundg (n - (i + 1))
        case measure => clear x1 x2 x3; have := HKX.out; have := HLT.out; omega
        case rel =>
          clear x1 x2 x3
          have h5 := HO5.out
          rw [HNS.out] at h5
          refine ⟨i + 1, p2, nx, acc ++ [nx], _, _, rfl, by first | rfl | exact congrArg (Value.int .i64) HW2.out, by first | exact congrArg (Value.int .i64) HW3.out | rfl, HLT.out, Nat.le_refl _, HNX2.out, ?_, by rw [nums, List.length_map], h5, HB5.out⟩
          have hne4 := own_apart HO4.out HRD4.out.blk (by decide)
          have hrow4 := own_own HRD4.out.row HO4.out (by decide)
          have hf : Fr (fun b => (Value.slice oA m1 oC).ownBlock = some b) w4 w5 := (Fr.refl _ w4).grown HG5.out (fun b _ hb => hb)
          exact ⟨HRD4.out.low, hf.blk HRD4.out.blk hne4, hf.own HRD4.out.row hrow4, HRD4.out.size, HRD4.out.small, HRD4.out.at_, HRD4.out.bits⟩
    · have hz : decide ((i : Int) < (n : Int)) = false := by simp; omega
      have HIN : Hid (i = n) := Lib.hid (by omega)
      have hz2 : n ≤ i := by omega
      clear hlt hi hlo hhi
      go_wp2
      go_ret2
      refine ⟨.inr ⟨acc, _, by rw [HG.out, ← HIN.out, HST.out]; rfl, by have := HAL.out; rw [← HIN.out]; exact this, rfl, ?_⟩, HBW.out⟩
      have h := HOWN.out
      rw [HM1.out] at h ⊢
      exact h
end Go.Proofs.Ytmeojlamadcedaa

namespace Go.Proofs.Ytmeojlamadcedaa
set_option linter.unusedSimpArgs false
set_option linter.unusedVariables false
open Go.RowKit Go.Sort Go.Proofs.YtmeojlamadcedaaW.PrintWords Go.Proofs.YtmeojlamadcedaaW.PrintLast Go.Proofs.YtmeojlamadcedaaW.PrintMore

set_option maxHeartbeats 1000000 in
set_option maxRecDepth 100000 in
theorem dc_shut (A : Option Addr) (n c : Nat) (w : World)
    (HUN : Hid (Calls Try.prog 31 #[.slice A n c] w fun e w' => ∃ v x, e = .returned (.tuple #[v, .int .i64 x]) ∧ (x = 9 ∨ x = 10) ∧ Below w.heap.size w w')) :
    Calls Try.prog 38 #[.slice A n c] w fun e w' => e = .returned (.tuple #[.pointer none, .int .i64 9]) ∧ Below w.heap.size w w' := by
  go_enter Try.func38, Try.ntmps38
  go_wp2_with (first
    | (go_at_call 31; (with_reducible refine HUN.out.mono ?_); rintro e w1 ⟨v1, er, rfl, her, hb⟩; have HB1 := Lib.hid hb; clear hb; obtain ⟨hd1, hd2, hd3⟩ : decide (er = 0) = false ∧ (er == 0) = false ∧ (er != 0) = true := (by rcases her with rfl | rfl <;> exact ⟨rfl, rfl, rfl⟩); clear her))
  go_ret2
  exact ⟨rfl, HB1.out⟩

set_option maxHeartbeats 1000000 in
set_option maxRecDepth 100000 in
theorem dc_uv1e (A : Option Addr) (n c : Nat) (w : World)
    (pn x1 k1 : Nat) (e1 : Int) (p : List UInt8)
    (HUN : Hid (Calls Try.prog 31 #[.slice A n c] w fun e w' => ∃ A1 c1, e = .returned (.tuple #[.slice A1 pn c1, .int .i64 0]) ∧ Bs w' A1 pn c1 p ∧ Below w.heap.size w w'))
    (HT1 : Hid (∀ W A c, Bs W A pn c p → Calls Try.prog 72 #[.slice A pn c] W fun e w' => e = .returned (.tuple #[.int .u64 (x1 : Nat), .int .i64 (k1 : Nat), .int .i64 e1]) ∧ Below W.heap.size W w'))
    (h0 : e1 ≠ 0) :
    Calls Try.prog 38 #[.slice A n c] w fun e w' => e = .returned (.tuple #[.pointer none, .int .i64 9]) ∧ Below w.heap.size w w' := by
  have hd1 : decide (e1 = 0) = false := by simpa using h0
  have hd2 : (e1 == 0) = false := by simpa using h0
  have hd3 : (e1 != 0) = true := by simpa using h0
  clear h0
  go_enter Try.func38, Try.ntmps38
  go_wp2_with (first
    | (go_at_call 31; (with_reducible refine HUN.out.mono ?_); rintro e w1 ⟨pA, pc, rfl, hbs, hb⟩; have HB1 := Lib.hid hb; have HP1 := Lib.hid hbs; clear hb hbs)
    | (go_at_call 72; (with_reducible refine (HT1.out _ _ _ HP1.out).mono ?_); rintro e w2 ⟨rfl, hb⟩; have HB2 := Lib.hid (HB1.out.trans (hb.mono HB1.out.size)); clear hb))
  go_ret2
  exact ⟨rfl, HB2.out⟩

set_option maxHeartbeats 1000000 in
set_option maxRecDepth 100000 in
theorem dc_uv1x (A : Option Addr) (n c : Nat) (w : World)
    (pn x1 k1 : Nat) (p : List UInt8)
    (HUN : Hid (Calls Try.prog 31 #[.slice A n c] w fun e w' => ∃ A1 c1, e = .returned (.tuple #[.slice A1 pn c1, .int .i64 0]) ∧ Bs w' A1 pn c1 p ∧ Below w.heap.size w w'))
    (HT1 : Hid (∀ W A c, Bs W A pn c p → Calls Try.prog 72 #[.slice A pn c] W fun e w' => e = .returned (.tuple #[.int .u64 (x1 : Nat), .int .i64 (k1 : Nat), .int .i64 0]) ∧ Below W.heap.size W w'))
    (h0 : 4096 < x1) :
    Calls Try.prog 38 #[.slice A n c] w fun e w' => e = .returned (.tuple #[.pointer none, .int .i64 9]) ∧ Below w.heap.size w w' := by
  have hd1 : decide ((4096 : Int) < (x1 : Int)) = true := by simp; omega
  clear h0
  go_enter Try.func38, Try.ntmps38
  go_wp2_with (first
    | (go_at_call 31; (with_reducible refine HUN.out.mono ?_); rintro e w1 ⟨pA, pc, rfl, hbs, hb⟩; have HB1 := Lib.hid hb; have HP1 := Lib.hid hbs; clear hb hbs)
    | (go_at_call 72; (with_reducible refine (HT1.out _ _ _ HP1.out).mono ?_); rintro e w2 ⟨rfl, hb⟩; have HB2 := Lib.hid (HB1.out.trans (hb.mono HB1.out.size)); clear hb))
  go_ret2
  exact ⟨rfl, HB2.out⟩

set_option maxHeartbeats 1000000 in
set_option maxRecDepth 100000 in
theorem dc_uv2e (A : Option Addr) (n c : Nat) (w : World)
    (pn x1 k1 qn x2 k2 : Nat) (p q : List UInt8)
    (HUN : Hid (Calls Try.prog 31 #[.slice A n c] w fun e w' => ∃ A1 c1, e = .returned (.tuple #[.slice A1 pn c1, .int .i64 0]) ∧ Bs w' A1 pn c1 p ∧ Below w.heap.size w w'))
    (HT1 : Hid (∀ W A c, Bs W A pn c p → Calls Try.prog 72 #[.slice A pn c] W fun e w' => e = .returned (.tuple #[.int .u64 (x1 : Nat), .int .i64 (k1 : Nat), .int .i64 0]) ∧ Below W.heap.size W w'))
    (HK1 : Hid (k1 ≤ pn ∧ qn = pn - k1 ∧ q = p.drop k1))
    (e2 : Int)
    (HT2 : Hid (∀ W A c, Bs W A qn c q → Calls Try.prog 72 #[.slice A qn c] W fun e w' => e = .returned (.tuple #[.int .u64 (x2 : Nat), .int .i64 (k2 : Nat), .int .i64 e2]) ∧ Below W.heap.size W w'))
    (hx1 : x1 ≤ 4096) (h0 : e2 ≠ 0) :
    Calls Try.prog 38 #[.slice A n c] w fun e w' => e = .returned (.tuple #[.pointer none, .int .i64 9]) ∧ Below w.heap.size w w' := by
  have hd1 : decide (e2 = 0) = false := by simpa using h0
  have hd2 : (e2 == 0) = false := by simpa using h0
  have hd3 : (e2 != 0) = true := by simpa using h0
  have hm1 : decide ((4096 : Int) < (x1 : Int)) = false := by simp; omega
  clear h0 hx1
  go_enter Try.func38, Try.ntmps38
  go_wp2_with (first
    | (go_at_call 31; (with_reducible refine HUN.out.mono ?_); rintro e w1 ⟨pA, pc, rfl, hbs, hb⟩; have HB1 := Lib.hid hb; have HP1 := Lib.hid hbs; clear hb hbs)
    | (go_at_call_of 72 (Value.slice pA pn pc); (with_reducible refine (HT1.out _ _ _ HP1.out).mono ?_); rintro e w2 ⟨rfl, hb⟩; have HB2 := Lib.hid (HB1.out.trans (hb.mono HB1.out.size)); obtain ⟨qA, qc, hcut, hq⟩ := (HP1.out.below hb).cut k1 qn q HK1.out.1 HK1.out.2.1 HK1.out.2.2; have HQ2 := Lib.hid (hq _ (HP1.out.below hb)); clear hb hq)
    | (go_at_call 72; (with_reducible refine (HT2.out _ _ _ HQ2.out).mono ?_); rintro e w3 ⟨rfl, hb⟩; have HB3 := Lib.hid (HB2.out.trans (hb.mono HB2.out.size)); clear hb))
  go_ret2
  exact ⟨rfl, HB3.out⟩

set_option maxHeartbeats 1000000 in
set_option maxRecDepth 100000 in
theorem dc_uv2x (A : Option Addr) (n c : Nat) (w : World)
    (pn x1 k1 qn x2 k2 : Nat) (p q : List UInt8)
    (HUN : Hid (Calls Try.prog 31 #[.slice A n c] w fun e w' => ∃ A1 c1, e = .returned (.tuple #[.slice A1 pn c1, .int .i64 0]) ∧ Bs w' A1 pn c1 p ∧ Below w.heap.size w w'))
    (HT1 : Hid (∀ W A c, Bs W A pn c p → Calls Try.prog 72 #[.slice A pn c] W fun e w' => e = .returned (.tuple #[.int .u64 (x1 : Nat), .int .i64 (k1 : Nat), .int .i64 0]) ∧ Below W.heap.size W w'))
    (HK1 : Hid (k1 ≤ pn ∧ qn = pn - k1 ∧ q = p.drop k1))
    (HT2 : Hid (∀ W A c, Bs W A qn c q → Calls Try.prog 72 #[.slice A qn c] W fun e w' => e = .returned (.tuple #[.int .u64 (x2 : Nat), .int .i64 (k2 : Nat), .int .i64 0]) ∧ Below W.heap.size W w'))
    (hx1 : x1 ≤ 4096) (hqn : qn < 100000) (h0 : 8 * qn < x2) :
    Calls Try.prog 38 #[.slice A n c] w fun e w' => e = .returned (.tuple #[.pointer none, .int .i64 9]) ∧ Below w.heap.size w w' := by
  have H8 : Hid (RowKit.wrap64 (8 * (qn : Int)) = 8 * (qn : Int)) := Lib.hid (wsmall' rfl (by omega) (by omega))
  have H9 : Hid (IntKind.u64.wrap (8 * (qn : Int)) = 8 * (qn : Int)) := Lib.hid (by simp [IntKind.wrap, IntKind.bits, IntKind.signed]; omega)
  have hm1 : decide ((4096 : Int) < (x1 : Int)) = false := by simp; omega
  have hd8 : decide (8 * (qn : Int) < (x2 : Int)) = true := by simp; omega
  clear h0 hx1 hqn
  have v8 := H8.out
  have v9 := H9.out
  go_enter Try.func38, Try.ntmps38
  go_wp2_with (first
    | (go_at_call 31; (with_reducible refine HUN.out.mono ?_); rintro e w1 ⟨pA, pc, rfl, hbs, hb⟩; have HB1 := Lib.hid hb; have HP1 := Lib.hid hbs; clear hb hbs)
    | (go_at_call_of 72 (Value.slice pA pn pc); (with_reducible refine (HT1.out _ _ _ HP1.out).mono ?_); rintro e w2 ⟨rfl, hb⟩; have HB2 := Lib.hid (HB1.out.trans (hb.mono HB1.out.size)); obtain ⟨qA, qc, hcut, hq⟩ := (HP1.out.below hb).cut k1 qn q HK1.out.1 HK1.out.2.1 HK1.out.2.2; have HQ2 := Lib.hid (hq _ (HP1.out.below hb)); clear hb hq)
    | (go_at_call 72; (with_reducible refine (HT2.out _ _ _ HQ2.out).mono ?_); rintro e w3 ⟨rfl, hb⟩; have HB3 := Lib.hid (HB2.out.trans (hb.mono HB2.out.size)); clear hb))
  go_ret2
  exact ⟨rfl, HB3.out⟩

set_option maxHeartbeats 1000000 in
set_option maxRecDepth 100000 in
theorem dc_pos (A : Option Addr) (n c : Nat) (w : World)
    (pn x1 k1 qn x2 k2 rn : Nat) (p q r : List UInt8)
    (HUN : Hid (Calls Try.prog 31 #[.slice A n c] w fun e w' => ∃ A1 c1, e = .returned (.tuple #[.slice A1 pn c1, .int .i64 0]) ∧ Bs w' A1 pn c1 p ∧ Below w.heap.size w w'))
    (HT1 : Hid (∀ W A c, Bs W A pn c p → Calls Try.prog 72 #[.slice A pn c] W fun e w' => e = .returned (.tuple #[.int .u64 (x1 : Nat), .int .i64 (k1 : Nat), .int .i64 0]) ∧ Below W.heap.size W w'))
    (HK1 : Hid (k1 ≤ pn ∧ qn = pn - k1 ∧ q = p.drop k1))
    (HT2 : Hid (∀ W A c, Bs W A qn c q → Calls Try.prog 72 #[.slice A qn c] W fun e w' => e = .returned (.tuple #[.int .u64 (x2 : Nat), .int .i64 (k2 : Nat), .int .i64 0]) ∧ Below W.heap.size W w'))
    (HK2 : Hid (k2 ≤ qn ∧ rn = qn - k2 ∧ r = q.drop k2))
    (hx1 : x1 ≤ 4096) (hqn : qn < 100000) (hx2 : x2 ≤ 8 * qn)
    (HPS : Hid (∀ W A c, Bs W A rn c r → Calls Try.prog 73 #[.slice A rn c, .int .i64 (x2 : Nat), .int .i64 (x1 : Nat)] W fun e w' => e = .returned (.tuple #[.slice none 0 0, .bool false]) ∧ Below W.heap.size W w')) :
    Calls Try.prog 38 #[.slice A n c] w fun e w' => e = .returned (.tuple #[.pointer none, .int .i64 9]) ∧ Below w.heap.size w w' := by
  have H8 : Hid (RowKit.wrap64 (8 * (qn : Int)) = 8 * (qn : Int)) := Lib.hid (wsmall' rfl (by omega) (by omega))
  have H9 : Hid (IntKind.u64.wrap (8 * (qn : Int)) = 8 * (qn : Int)) := Lib.hid (by simp [IntKind.wrap, IntKind.bits, IntKind.signed]; omega)
  have H10 : Hid (RowKit.wrap64 (x1 : Int) = (x1 : Int)) := Lib.hid (wsmall' rfl (by omega) (by omega))
  have H11 : Hid (RowKit.wrap64 (x2 : Int) = (x2 : Int)) := Lib.hid (wsmall' rfl (by omega) (by omega))
  have hd8 : decide (8 * (qn : Int) < (x2 : Int)) = false := by simp; omega
  have hm1 : decide ((4096 : Int) < (x1 : Int)) = false := by simp; omega
  clear hx1 hx2 hqn
  have v8 := H8.out
  have v9 := H9.out
  have v10 := H10.out
  have v11 := H11.out
  go_enter Try.func38, Try.ntmps38
  go_wp2_with (first
    | (go_at_call 31; (with_reducible refine HUN.out.mono ?_); rintro e w1 ⟨pA, pc, rfl, hbs, hb⟩; have HB1 := Lib.hid hb; have HP1 := Lib.hid hbs; clear hb hbs)
    | (go_at_call_of 72 (Value.slice pA pn pc); (with_reducible refine (HT1.out _ _ _ HP1.out).mono ?_); rintro e w2 ⟨rfl, hb⟩; have HB2 := Lib.hid (HB1.out.trans (hb.mono HB1.out.size)); obtain ⟨qA, qc, hcut, hq⟩ := (HP1.out.below hb).cut k1 qn q HK1.out.1 HK1.out.2.1 HK1.out.2.2; have HQ2 := Lib.hid (hq _ (HP1.out.below hb)); clear hb hq)
    | (go_at_call 72; (with_reducible refine (HT2.out _ _ _ HQ2.out).mono ?_); rintro e w3 ⟨rfl, hb⟩; have HB3 := Lib.hid (HB2.out.trans (hb.mono HB2.out.size)); obtain ⟨rA, rc, hcut2, hr⟩ := (HQ2.out.below hb).cut k2 rn r HK2.out.1 HK2.out.2.1 HK2.out.2.2; have HR3 := Lib.hid (hr _ (HQ2.out.below hb)); clear hb hr)
    | (go_at_call 73; (with_reducible refine (HPS.out _ _ _ HR3.out).mono ?_); rintro e w4 ⟨rfl, hb⟩; have HB4 := Lib.hid (HB3.out.trans (hb.mono HB3.out.size)); clear hb))
  go_ret2
  exact ⟨rfl, HB4.out⟩

set_option maxHeartbeats 1000000 in
set_option maxRecDepth 100000 in
theorem dc_build (A : Option Addr) (n c : Nat) (w : World)
    (pn x1 k1 qn x2 k2 rn : Nat) (p q r : List UInt8)
    (HUN : Hid (Calls Try.prog 31 #[.slice A n c] w fun e w' => ∃ A1 c1, e = .returned (.tuple #[.slice A1 pn c1, .int .i64 0]) ∧ Bs w' A1 pn c1 p ∧ Below w.heap.size w w'))
    (HT1 : Hid (∀ W A c, Bs W A pn c p → Calls Try.prog 72 #[.slice A pn c] W fun e w' => e = .returned (.tuple #[.int .u64 (x1 : Nat), .int .i64 (k1 : Nat), .int .i64 0]) ∧ Below W.heap.size W w'))
    (HK1 : Hid (k1 ≤ pn ∧ qn = pn - k1 ∧ q = p.drop k1))
    (HT2 : Hid (∀ W A c, Bs W A qn c q → Calls Try.prog 72 #[.slice A qn c] W fun e w' => e = .returned (.tuple #[.int .u64 (x2 : Nat), .int .i64 (k2 : Nat), .int .i64 0]) ∧ Below W.heap.size W w'))
    (HK2 : Hid (k2 ≤ qn ∧ rn = qn - k2 ∧ r = q.drop k2))
    (hx1 : x1 ≤ 4096) (hqn : qn < 100000) (hx2 : x2 ≤ 8 * qn)
    (l : List Int) (er : Int)
    (HPS : Hid (∀ W A c, Bs W A rn c r → Calls Try.prog 73 #[.slice A rn c, .int .i64 (x2 : Nat), .int .i64 (x1 : Nat)] W fun e w' => ∃ lA lc, e = .returned (.tuple #[.slice lA l.length lc, .bool true]) ∧ Kd.C (Kd.int .i64) w' lA l.length l ∧ Below W.heap.size W w'))
    (HBU : Hid (∀ W A c, Kd.C (Kd.int .i64) W A l.length l → Calls Try.prog 62 #[.slice A l.length c] W fun e w' => e = .returned (.tuple #[.pointer none, .int .i64 er]) ∧ Below W.heap.size W w'))
    (h0 : er ≠ 0) :
    Calls Try.prog 38 #[.slice A n c] w fun e w' => e = .returned (.tuple #[.pointer none, .int .i64 9]) ∧ Below w.heap.size w w' := by
  have H8 : Hid (RowKit.wrap64 (8 * (qn : Int)) = 8 * (qn : Int)) := Lib.hid (wsmall' rfl (by omega) (by omega))
  have H9 : Hid (IntKind.u64.wrap (8 * (qn : Int)) = 8 * (qn : Int)) := Lib.hid (by simp [IntKind.wrap, IntKind.bits, IntKind.signed]; omega)
  have H10 : Hid (RowKit.wrap64 (x1 : Int) = (x1 : Int)) := Lib.hid (wsmall' rfl (by omega) (by omega))
  have H11 : Hid (RowKit.wrap64 (x2 : Int) = (x2 : Int)) := Lib.hid (wsmall' rfl (by omega) (by omega))
  have hd8 : decide (8 * (qn : Int) < (x2 : Int)) = false := by simp; omega
  have hm1 : decide ((4096 : Int) < (x1 : Int)) = false := by simp; omega
  clear hx1 hx2 hqn
  have v8 := H8.out
  have v9 := H9.out
  have v10 := H10.out
  have v11 := H11.out
  have hd1 : decide (er = 0) = false := by simpa using h0
  have hd2 : (er == 0) = false := by simpa using h0
  have hd3 : (er != 0) = true := by simpa using h0
  clear h0
  go_enter Try.func38, Try.ntmps38
  go_wp2_with (first
    | (go_at_call 31; (with_reducible refine HUN.out.mono ?_); rintro e w1 ⟨pA, pc, rfl, hbs, hb⟩; have HB1 := Lib.hid hb; have HP1 := Lib.hid hbs; clear hb hbs)
    | (go_at_call_of 72 (Value.slice pA pn pc); (with_reducible refine (HT1.out _ _ _ HP1.out).mono ?_); rintro e w2 ⟨rfl, hb⟩; have HB2 := Lib.hid (HB1.out.trans (hb.mono HB1.out.size)); obtain ⟨qA, qc, hcut, hq⟩ := (HP1.out.below hb).cut k1 qn q HK1.out.1 HK1.out.2.1 HK1.out.2.2; have HQ2 := Lib.hid (hq _ (HP1.out.below hb)); clear hb hq)
    | (go_at_call 72; (with_reducible refine (HT2.out _ _ _ HQ2.out).mono ?_); rintro e w3 ⟨rfl, hb⟩; have HB3 := Lib.hid (HB2.out.trans (hb.mono HB2.out.size)); obtain ⟨rA, rc, hcut2, hr⟩ := (HQ2.out.below hb).cut k2 rn r HK2.out.1 HK2.out.2.1 HK2.out.2.2; have HR3 := Lib.hid (hr _ (HQ2.out.below hb)); clear hb hr)
    | (go_at_call 73; (with_reducible refine (HPS.out _ _ _ HR3.out).mono ?_); rintro e w4 ⟨lA, lc, rfl, hC, hb⟩; have HB4 := Lib.hid (HB3.out.trans (hb.mono HB3.out.size)); have HC4 := Lib.hid hC; clear hb hC)
    | (go_at_call 62; (with_reducible refine (HBU.out _ _ _ HC4.out).mono ?_); rintro e w5 ⟨rfl, hb⟩; have HB5 := Lib.hid (HB4.out.trans (hb.mono HB4.out.size)); clear hb))
  go_ret2
  exact ⟨rfl, HB5.out⟩

set_option maxHeartbeats 1000000 in
set_option maxRecDepth 100000 in
theorem dc_enc (A : Option Addr) (n c : Nat) (w : World)
    (pn x1 k1 qn x2 k2 rn : Nat) (p q r : List UInt8)
    (HUN : Hid (Calls Try.prog 31 #[.slice A n c] w fun e w' => ∃ A1 c1, e = .returned (.tuple #[.slice A1 pn c1, .int .i64 0]) ∧ Bs w' A1 pn c1 p ∧ Below w.heap.size w w'))
    (HT1 : Hid (∀ W A c, Bs W A pn c p → Calls Try.prog 72 #[.slice A pn c] W fun e w' => e = .returned (.tuple #[.int .u64 (x1 : Nat), .int .i64 (k1 : Nat), .int .i64 0]) ∧ Below W.heap.size W w'))
    (HK1 : Hid (k1 ≤ pn ∧ qn = pn - k1 ∧ q = p.drop k1))
    (HT2 : Hid (∀ W A c, Bs W A qn c q → Calls Try.prog 72 #[.slice A qn c] W fun e w' => e = .returned (.tuple #[.int .u64 (x2 : Nat), .int .i64 (k2 : Nat), .int .i64 0]) ∧ Below W.heap.size W w'))
    (HK2 : Hid (k2 ≤ qn ∧ rn = qn - k2 ∧ r = q.drop k2))
    (hx1 : x1 ≤ 4096) (hqn : qn < 100000) (hx2 : x2 ≤ 8 * qn)
    (l : List Int) (en : Nat) (d : Bool) (hd : d = false)
    (HPS : Hid (∀ W A c, Bs W A rn c r → Calls Try.prog 73 #[.slice A rn c, .int .i64 (x2 : Nat), .int .i64 (x1 : Nat)] W fun e w' => ∃ lA lc, e = .returned (.tuple #[.slice lA l.length lc, .bool true]) ∧ Kd.C (Kd.int .i64) w' lA l.length l ∧ Below W.heap.size W w'))
    (HBU : Hid (∀ W A c, Kd.C (Kd.int .i64) W A l.length l → Calls Try.prog 62 #[.slice A l.length c] W fun e w' => ∃ la gv sv, e = .returned (.tuple #[.pointer (some ⟨la, 0, none⟩), .int .i64 0]) ∧ IsList W.heap.size w' la gv sv l ∧ Below W.heap.size W w'))
    (HEN : Hid (∀ B la gv sv W, IsList B W la gv sv l → Calls Try.prog 37 #[.pointer (some ⟨la, 0, none⟩)] W fun e w' => ∃ A c, e = .returned (.slice A en c) ∧ Bs w' A en c (Po.Enc l) ∧ Below W.heap.size W w'))
    (HEQ : Hid (∀ W A1 c1, Bs W A1 en c1 (Po.Enc l) → Below w.heap.size w W → Calls Try.prog 74 #[.slice A1 en c1, .slice A n c] W fun e w' => e = .returned (.bool d) ∧ Below W.heap.size W w')) :
    Calls Try.prog 38 #[.slice A n c] w fun e w' => e = .returned (.tuple #[.pointer none, .int .i64 9]) ∧ Below w.heap.size w w' := by
  have H8 : Hid (RowKit.wrap64 (8 * (qn : Int)) = 8 * (qn : Int)) := Lib.hid (wsmall' rfl (by omega) (by omega))
  have H9 : Hid (IntKind.u64.wrap (8 * (qn : Int)) = 8 * (qn : Int)) := Lib.hid (by simp [IntKind.wrap, IntKind.bits, IntKind.signed]; omega)
  have H10 : Hid (RowKit.wrap64 (x1 : Int) = (x1 : Int)) := Lib.hid (wsmall' rfl (by omega) (by omega))
  have H11 : Hid (RowKit.wrap64 (x2 : Int) = (x2 : Int)) := Lib.hid (wsmall' rfl (by omega) (by omega))
  have hd8 : decide (8 * (qn : Int) < (x2 : Int)) = false := by simp; omega
  have hm1 : decide ((4096 : Int) < (x1 : Int)) = false := by simp; omega
  clear hx1 hx2 hqn
  have v8 := H8.out
  have v9 := H9.out
  have v10 := H10.out
  have v11 := H11.out
  subst hd
  go_enter Try.func38, Try.ntmps38
  go_wp2_with (first
    | (go_at_call 31; (with_reducible refine HUN.out.mono ?_); rintro e w1 ⟨pA, pc, rfl, hbs, hb⟩; have HB1 := Lib.hid hb; have HP1 := Lib.hid hbs; clear hb hbs)
    | (go_at_call_of 72 (Value.slice pA pn pc); (with_reducible refine (HT1.out _ _ _ HP1.out).mono ?_); rintro e w2 ⟨rfl, hb⟩; have HB2 := Lib.hid (HB1.out.trans (hb.mono HB1.out.size)); obtain ⟨qA, qc, hcut, hq⟩ := (HP1.out.below hb).cut k1 qn q HK1.out.1 HK1.out.2.1 HK1.out.2.2; have HQ2 := Lib.hid (hq _ (HP1.out.below hb)); clear hb hq)
    | (go_at_call 72; (with_reducible refine (HT2.out _ _ _ HQ2.out).mono ?_); rintro e w3 ⟨rfl, hb⟩; have HB3 := Lib.hid (HB2.out.trans (hb.mono HB2.out.size)); obtain ⟨rA, rc, hcut2, hr⟩ := (HQ2.out.below hb).cut k2 rn r HK2.out.1 HK2.out.2.1 HK2.out.2.2; have HR3 := Lib.hid (hr _ (HQ2.out.below hb)); clear hb hr)
    | (go_at_call 73; (with_reducible refine (HPS.out _ _ _ HR3.out).mono ?_); rintro e w4 ⟨lA, lc, rfl, hC, hb⟩; have HB4 := Lib.hid (HB3.out.trans (hb.mono HB3.out.size)); have HC4 := Lib.hid hC; clear hb hC)
    | (go_at_call 62; (with_reducible refine (HBU.out _ _ _ HC4.out).mono ?_); rintro e w5 ⟨la, gv, sv, rfl, hL, hb⟩; have HB5 := Lib.hid (HB4.out.trans (hb.mono HB4.out.size)); have HL5 := Lib.hid (hL.lower HB4.out.size); clear hb hL)
    | (go_at_call 37; (with_reducible refine (HEN.out _ _ _ _ _ HL5.out).mono ?_); rintro e w6 ⟨eA, ec, rfl, hE, hb⟩; have HB6 := Lib.hid (HB5.out.trans (hb.mono HB5.out.size)); have HE6 := Lib.hid hE; have HL6 := Lib.hid (HL5.out.later hb); clear hb hE)
    | (go_at_call 74; (with_reducible refine (HEQ.out _ _ _ HE6.out HB6.out).mono ?_); rintro e w7 ⟨rfl, hb⟩; have HB7 := Lib.hid (HB6.out.trans (hb.mono HB6.out.size)); have HL7 := Lib.hid (HL6.out.later hb); clear hb))
  go_ret2
  exact ⟨rfl, HB7.out⟩

set_option maxHeartbeats 1000000 in
set_option maxRecDepth 100000 in
theorem dc_ok (A : Option Addr) (n c : Nat) (w : World)
    (pn x1 k1 qn x2 k2 rn : Nat) (p q r : List UInt8)
    (HUN : Hid (Calls Try.prog 31 #[.slice A n c] w fun e w' => ∃ A1 c1, e = .returned (.tuple #[.slice A1 pn c1, .int .i64 0]) ∧ Bs w' A1 pn c1 p ∧ Below w.heap.size w w'))
    (HT1 : Hid (∀ W A c, Bs W A pn c p → Calls Try.prog 72 #[.slice A pn c] W fun e w' => e = .returned (.tuple #[.int .u64 (x1 : Nat), .int .i64 (k1 : Nat), .int .i64 0]) ∧ Below W.heap.size W w'))
    (HK1 : Hid (k1 ≤ pn ∧ qn = pn - k1 ∧ q = p.drop k1))
    (HT2 : Hid (∀ W A c, Bs W A qn c q → Calls Try.prog 72 #[.slice A qn c] W fun e w' => e = .returned (.tuple #[.int .u64 (x2 : Nat), .int .i64 (k2 : Nat), .int .i64 0]) ∧ Below W.heap.size W w'))
    (HK2 : Hid (k2 ≤ qn ∧ rn = qn - k2 ∧ r = q.drop k2))
    (hx1 : x1 ≤ 4096) (hqn : qn < 100000) (hx2 : x2 ≤ 8 * qn)
    (l : List Int) (en : Nat) (d : Bool) (hd : d = true)
    (HPS : Hid (∀ W A c, Bs W A rn c r → Calls Try.prog 73 #[.slice A rn c, .int .i64 (x2 : Nat), .int .i64 (x1 : Nat)] W fun e w' => ∃ lA lc, e = .returned (.tuple #[.slice lA l.length lc, .bool true]) ∧ Kd.C (Kd.int .i64) w' lA l.length l ∧ Below W.heap.size W w'))
    (HBU : Hid (∀ W A c, Kd.C (Kd.int .i64) W A l.length l → Calls Try.prog 62 #[.slice A l.length c] W fun e w' => ∃ la gv sv, e = .returned (.tuple #[.pointer (some ⟨la, 0, none⟩), .int .i64 0]) ∧ IsList W.heap.size w' la gv sv l ∧ Below W.heap.size W w'))
    (HEN : Hid (∀ B la gv sv W, IsList B W la gv sv l → Calls Try.prog 37 #[.pointer (some ⟨la, 0, none⟩)] W fun e w' => ∃ A c, e = .returned (.slice A en c) ∧ Bs w' A en c (Po.Enc l) ∧ Below W.heap.size W w'))
    (HEQ : Hid (∀ W A1 c1, Bs W A1 en c1 (Po.Enc l) → Below w.heap.size w W → Calls Try.prog 74 #[.slice A1 en c1, .slice A n c] W fun e w' => e = .returned (.bool d) ∧ Below W.heap.size W w')) :
    Calls Try.prog 38 #[.slice A n c] w fun e w' => ∃ la gv sv, e = .returned (.tuple #[.pointer (some ⟨la, 0, none⟩), .int .i64 0]) ∧ IsList w.heap.size w' la gv sv l ∧ Below w.heap.size w w' := by
  have H8 : Hid (RowKit.wrap64 (8 * (qn : Int)) = 8 * (qn : Int)) := Lib.hid (wsmall' rfl (by omega) (by omega))
  have H9 : Hid (IntKind.u64.wrap (8 * (qn : Int)) = 8 * (qn : Int)) := Lib.hid (by simp [IntKind.wrap, IntKind.bits, IntKind.signed]; omega)
  have H10 : Hid (RowKit.wrap64 (x1 : Int) = (x1 : Int)) := Lib.hid (wsmall' rfl (by omega) (by omega))
  have H11 : Hid (RowKit.wrap64 (x2 : Int) = (x2 : Int)) := Lib.hid (wsmall' rfl (by omega) (by omega))
  have hd8 : decide (8 * (qn : Int) < (x2 : Int)) = false := by simp; omega
  have hm1 : decide ((4096 : Int) < (x1 : Int)) = false := by simp; omega
  clear hx1 hx2 hqn
  have v8 := H8.out
  have v9 := H9.out
  have v10 := H10.out
  have v11 := H11.out
  subst hd
  go_enter Try.func38, Try.ntmps38
  go_wp2_with (first
    | (go_at_call 31; (with_reducible refine HUN.out.mono ?_); rintro e w1 ⟨pA, pc, rfl, hbs, hb⟩; have HB1 := Lib.hid hb; have HP1 := Lib.hid hbs; clear hb hbs)
    | (go_at_call_of 72 (Value.slice pA pn pc); (with_reducible refine (HT1.out _ _ _ HP1.out).mono ?_); rintro e w2 ⟨rfl, hb⟩; have HB2 := Lib.hid (HB1.out.trans (hb.mono HB1.out.size)); obtain ⟨qA, qc, hcut, hq⟩ := (HP1.out.below hb).cut k1 qn q HK1.out.1 HK1.out.2.1 HK1.out.2.2; have HQ2 := Lib.hid (hq _ (HP1.out.below hb)); clear hb hq)
    | (go_at_call 72; (with_reducible refine (HT2.out _ _ _ HQ2.out).mono ?_); rintro e w3 ⟨rfl, hb⟩; have HB3 := Lib.hid (HB2.out.trans (hb.mono HB2.out.size)); obtain ⟨rA, rc, hcut2, hr⟩ := (HQ2.out.below hb).cut k2 rn r HK2.out.1 HK2.out.2.1 HK2.out.2.2; have HR3 := Lib.hid (hr _ (HQ2.out.below hb)); clear hb hr)
    | (go_at_call 73; (with_reducible refine (HPS.out _ _ _ HR3.out).mono ?_); rintro e w4 ⟨lA, lc, rfl, hC, hb⟩; have HB4 := Lib.hid (HB3.out.trans (hb.mono HB3.out.size)); have HC4 := Lib.hid hC; clear hb hC)
    | (go_at_call 62; (with_reducible refine (HBU.out _ _ _ HC4.out).mono ?_); rintro e w5 ⟨la, gv, sv, rfl, hL, hb⟩; have HB5 := Lib.hid (HB4.out.trans (hb.mono HB4.out.size)); have HL5 := Lib.hid (hL.lower HB4.out.size); clear hb hL)
    | (go_at_call 37; (with_reducible refine (HEN.out _ _ _ _ _ HL5.out).mono ?_); rintro e w6 ⟨eA, ec, rfl, hE, hb⟩; have HB6 := Lib.hid (HB5.out.trans (hb.mono HB5.out.size)); have HE6 := Lib.hid hE; have HL6 := Lib.hid (HL5.out.later hb); clear hb hE)
    | (go_at_call 74; (with_reducible refine (HEQ.out _ _ _ HE6.out HB6.out).mono ?_); rintro e w7 ⟨rfl, hb⟩; have HB7 := Lib.hid (HB6.out.trans (hb.mono HB6.out.size)); have HL7 := Lib.hid (HL6.out.later hb); clear hb))
  go_ret2
  exact ⟨la, gv, sv, rfl, HL7.out, HB7.out⟩

end Go.Proofs.Ytmeojlamadcedaa

namespace Go.Proofs.Ytmeojlamadcedaa
set_option linter.unusedSimpArgs false
set_option linter.unusedVariables false
open Go.RowKit Go.Sort Go.Proofs.YtmeojlamadcedaaW.PrintWords Go.Proofs.YtmeojlamadcedaaW.PrintLast Go.Proofs.YtmeojlamadcedaaW.PrintMore

/-- What Decode leaves behind. -/
def DecPost (w : World) (b : List UInt8) (e : Ending) (w' : World) : Prop :=
  (Po.dec b = none ∧ e = .returned (.tuple #[.pointer none, .int .i64 9]) ∨
    ∃ l a gv sv, Po.dec b = some l ∧ e = .returned (.tuple #[.pointer (some ⟨a, 0, none⟩), .int .i64 0]) ∧ IsList w.heap.size w' a gv sv l) ∧ Below w.heap.size w w'
theorem DecPost.bad {w : World} {b : List UInt8} {e : Ending} {w' : World} (h : Po.dec b = none) (hq : e = .returned (.tuple #[.pointer none, .int .i64 9]) ∧ Below w.heap.size w w') : DecPost w b e w' := ⟨.inl ⟨h, hq.1⟩, hq.2⟩

/-- How the header comes about. -/
inductive Way (b : List UInt8) : Prop
  | shut (h : ¬ Po.Opens b)
  | one (ho : Po.Opens b) (p : List UInt8) (hp : b.take (b.length - 4) = p) (x1 k1 : Nat) (e1 : Int) (h1 : Po.tkU p 0 0 = (x1, k1, e1)) (hb : e1 ≠ 0 ∨ 4096 < x1)
  | two (ho : Po.Opens b) (p q : List UInt8) (hp : b.take (b.length - 4) = p) (x1 k1 x2 k2 : Nat) (e2 : Int) (h1 : Po.tkU p 0 0 = (x1, k1, 0)) (hx1 : x1 ≤ 4096) (hq : p.drop k1 = q) (h2 : Po.tkU q 0 0 = (x2, k2, e2)) (hb : e2 ≠ 0 ∨ 8 * q.length < x2)
  | all (ho : Po.Opens b) (p q r : List UInt8) (hp : b.take (b.length - 4) = p) (x1 k1 x2 k2 : Nat) (h1 : Po.tkU p 0 0 = (x1, k1, 0)) (hx1 : x1 ≤ 4096) (hq : p.drop k1 = q) (h2 : Po.tkU q 0 0 = (x2, k2, 0)) (hx2 : x2 ≤ 8 * q.length) (hr : q.drop k2 = r)
theorem way (b : List UInt8) : Way b := by
  by_cases ho : Po.Opens b
  · obtain ⟨p, hp⟩ : ∃ p, b.take (b.length - 4) = p := ⟨_, rfl⟩
    obtain ⟨T1, h1⟩ : ∃ T, Po.tkU p 0 0 = T := ⟨_, rfl⟩
    obtain ⟨x1, k1, e1⟩ := T1
    by_cases hb : e1 ≠ 0 ∨ 4096 < x1
    · exact .one ho p hp x1 k1 e1 h1 hb
    · obtain ⟨rfl, hx1⟩ : e1 = 0 ∧ x1 ≤ 4096 := by omega
      obtain ⟨q, hq⟩ : ∃ q, p.drop k1 = q := ⟨_, rfl⟩
      obtain ⟨T2, h2⟩ : ∃ T, Po.tkU q 0 0 = T := ⟨_, rfl⟩
      obtain ⟨x2, k2, e2⟩ := T2
      by_cases hb2 : e2 ≠ 0 ∨ 8 * q.length < x2
      · exact .two ho p q hp x1 k1 x2 k2 e2 h1 hx1 hq h2 hb2
      · obtain ⟨rfl, hx2⟩ : e2 = 0 ∧ x2 ≤ 8 * q.length := by omega
        exact .all ho p q _ hp x1 k1 x2 k2 h1 hx1 hq h2 hx2 rfl
  · exact .shut ho
theorem tk_le {b : List UInt8} {x k : Nat} (h : Po.tkU b 0 0 = (x, k, 0)) : k ≤ b.length := by
  have h1 := Po.tkU_len b 0 0 (by rw [h])
  rw [h] at h1
  dsimp only at h1
  omega
theorem dec_one {b p : List UInt8} {x1 k1 : Nat} {e1 : Int} (ho : Po.Opens b) (hp : b.take (b.length - 4) = p) (h1 : Po.tkU p 0 0 = (x1, k1, e1)) (hb : e1 ≠ 0 ∨ 4096 < x1) : Po.dec b = none := by
  have hc : (Po.tkU p 0 0).2.2 ≠ 0 ∨ 4096 < (Po.tkU p 0 0).1 := by rw [h1]; exact hb
  rw [Po.dec_open ho, hp, Po.parse, Po.hdr, if_pos hc]
  rfl
theorem dec_two {b p q : List UInt8} {x1 k1 x2 k2 : Nat} {e2 : Int} (ho : Po.Opens b) (hp : b.take (b.length - 4) = p) (h1 : Po.tkU p 0 0 = (x1, k1, 0)) (hx1 : x1 ≤ 4096) (hq : p.drop k1 = q) (h2 : Po.tkU q 0 0 = (x2, k2, e2))
    (hb : e2 ≠ 0 ∨ 8 * (q.drop k2).length < x2) : Po.dec b = none := by
  have hc : ¬ ((Po.tkU p 0 0).2.2 ≠ 0 ∨ 4096 < (Po.tkU p 0 0).1) := by rw [h1]; show ¬ ((0 : Int) ≠ 0 ∨ 4096 < x1); omega
  have hc2 : (Po.tkU q 0 0).2.2 ≠ 0 ∨ 8 * (q.drop (Po.tkU q 0 0).2.1).length < (Po.tkU q 0 0).1 := by rw [h2]; exact hb
  have hk : (Po.tkU p 0 0).2.1 = k1 := by rw [h1]
  rw [Po.dec_open ho, hp, Po.parse, Po.hdr, if_neg hc, hk, hq, Po.hdr2, if_pos hc2]
  rfl
theorem dec_all {b p q r : List UInt8} {x1 k1 x2 k2 : Nat} (ho : Po.Opens b) (hp : b.take (b.length - 4) = p) (h1 : Po.tkU p 0 0 = (x1, k1, 0)) (hx1 : x1 ≤ 4096) (hq : p.drop k1 = q) (h2 : Po.tkU q 0 0 = (x2, k2, 0)) (hr : q.drop k2 = r)
    (hx2 : x2 ≤ 8 * r.length) : Po.dec b = (Po.gaps x1 x2 r).bind (Po.fin b) := by
  have hc : ¬ ((Po.tkU p 0 0).2.2 ≠ 0 ∨ 4096 < (Po.tkU p 0 0).1) := by rw [h1]; show ¬ ((0 : Int) ≠ 0 ∨ 4096 < x1); omega
  have hc2 : ¬ ((Po.tkU q 0 0).2.2 ≠ 0 ∨ 8 * (q.drop (Po.tkU q 0 0).2.1).length < (Po.tkU q 0 0).1) := by
    rw [h2]; show ¬ ((0 : Int) ≠ 0 ∨ 8 * (q.drop k2).length < x2); rw [hr]; omega
  have hk : (Po.tkU p 0 0).2.1 = k1 := by rw [h1]
  have hk2 : (Po.tkU q 0 0).2.1 = k2 := by rw [h2]
  have hv1 : (Po.tkU p 0 0).1 = x1 := by rw [h1]
  have hv2 : (Po.tkU q 0 0).1 = x2 := by rw [h2]
  rw [Po.dec_open ho, hp, Po.parse, Po.hdr, if_neg hc, hk, hq, Po.hdr2, if_neg hc2, hk2, hr, hv1, hv2]
  rfl

theorem decode_calls (A : Option Addr) (n c : Nat) (b : List UInt8) (w : World) (h : Bs w A n c b) (hn : n < 100000) :
    Calls Try.prog 38 #[.slice A n c] w fun e w' => DecPost w b e w' := by
  have HA : ∀ W, Below w.heap.size w W → Bs W A n c b := fun W hW => h.below hW
  have HUN : ∀ p, Po.Opens b → b.take (b.length - 4) = p → ∀ pn, pn = p.length → Hid (Calls Try.prog 31 #[.slice A n c] w fun e w' => ∃ A1 c1, e = .returned (.tuple #[.slice A1 pn c1, .int .i64 0]) ∧ Bs w' A1 pn c1 p ∧ Below w.heap.size w w') := fun p ho hp pn hpn => Lib.hid (by
    have hl : pn = n - 4 := by rw [hpn, ← hp, List.length_take, h.len]; omega
    have h1 := unB_open h (by omega) ho pn hl
    rwa [hp] at h1)
  have HUV : ∀ (p : List UInt8) (x k : Nat) (e : Int), p.length < 1000000000 → Po.tkU p 0 0 = (x, k, e) → Hid (∀ W A c, Bs W A p.length c p → Calls Try.prog 72 #[.slice A p.length c] W fun e' w' => e' = .returned (.tuple #[.int .u64 (x : Nat), .int .i64 (k : Nat), .int .i64 e]) ∧ Below W.heap.size W w') := fun p x k e hl ht => Lib.hid (fun W A c hB => uvB_calls hB hl x k e ht)
  have hbl := h.len
  have hpl : ∀ p : List UInt8, b.take (b.length - 4) = p → p.length < 100000 := fun p hp => by rw [← hp, List.length_take]; omega
  rcases way b with ho | ⟨ho, p, hp, x1, k1, e1, h1, hb⟩ | ⟨ho, p, q, hp, x1, k1, x2, k2, e2, h1, hx1, hq, h2, hb⟩ | ⟨ho, p, q, r, hp, x1, k1, x2, k2, h1, hx1, hq, h2, hx2, hr⟩
  · exact (dc_shut A n c w (Lib.hid (unB_shut h (by omega) ho))).mono fun e w' hq => DecPost.bad (Po.dec_shut ho) hq
  · have hD := dec_one ho hp h1 hb
    have hp5 := hpl p hp
    by_cases h0 : e1 = 0
    · subst h0
      exact (dc_uv1x A n c w p.length x1 k1 p (HUN p ho hp _ rfl) (HUV p x1 k1 0 (by omega) h1) (by omega)).mono fun e w' hq => DecPost.bad hD hq
    · exact (dc_uv1e A n c w p.length x1 k1 e1 p (HUN p ho hp _ rfl) (HUV p x1 k1 e1 (by omega) h1) h0).mono fun e w' hq => DecPost.bad hD hq
  · have hp5 := hpl p hp
    have hk1 := tk_le h1
    have hql : q.length = p.length - k1 := by rw [← hq, List.length_drop]
    have hK1 : Hid (k1 ≤ p.length ∧ q.length = p.length - k1 ∧ q = p.drop k1) := Lib.hid ⟨hk1, hql, hq.symm⟩
    have hD := dec_two ho hp h1 hx1 hq h2 (by rcases hb with hb | hb; exact .inl hb; right; rw [List.length_drop]; omega)
    by_cases h0 : e2 = 0
    · subst h0
      exact (dc_uv2x A n c w p.length x1 k1 q.length x2 k2 p q (HUN p ho hp _ rfl) (HUV p x1 k1 0 (by omega) h1) hK1 (HUV q x2 k2 0 (by omega) h2) hx1 (by omega) (by omega)).mono fun e w' hq => DecPost.bad hD hq
    · exact (dc_uv2e A n c w p.length x1 k1 q.length x2 k2 p q (HUN p ho hp _ rfl) (HUV p x1 k1 0 (by omega) h1) hK1 e2 (HUV q x2 k2 e2 (by omega) h2) hx1 h0).mono fun e w' hq => DecPost.bad hD hq
  · have hp5 := hpl p hp
    have hk1 := tk_le h1
    have hk2 := tk_le h2
    have hql : q.length = p.length - k1 := by rw [← hq, List.length_drop]
    have hrl : r.length = q.length - k2 := by rw [← hr, List.length_drop]
    have hK1 : Hid (k1 ≤ p.length ∧ q.length = p.length - k1 ∧ q = p.drop k1) := Lib.hid ⟨hk1, hql, hq.symm⟩
    have hK2 : Hid (k2 ≤ q.length ∧ r.length = q.length - k2 ∧ r = q.drop k2) := Lib.hid ⟨hk2, hrl, hr.symm⟩
    have H1 := HUV p x1 k1 0 (by omega) h1
    have H2 := HUV q x2 k2 0 (by omega) h2
    have HU := HUN p ho hp _ rfl
    have HPS : x2 ≤ 8 * r.length → ∀ W A c, Bs W A r.length c r → Calls Try.prog 73 #[.slice A r.length c, .int .i64 (x2 : Nat), .int .i64 (x1 : Nat)] W fun e w' => PosPost x1 x2 r W e w' := fun hx W A c hB => pos_calls A c x1 x2 r W hB.rds hB.cap hx hx1 (by omega)
    by_cases hb4 : 8 * r.length < x2 ∨ Po.gaps x1 x2 r = none
    · have hD : Po.dec b = none := by
        by_cases hx : 8 * r.length < x2
        · exact dec_two ho hp h1 hx1 hq h2 (.inr (by rw [hr]; exact hx))
        · rcases hb4 with h4 | h4
          · exact absurd h4 hx
          · rw [dec_all ho hp h1 hx1 hq h2 hr (by omega), h4]; rfl
      refine (dc_pos A n c w p.length x1 k1 q.length x2 k2 r.length p q r HU H1 hK1 H2 hK2 hx1 (by omega) hx2 (Lib.hid fun W A c hB => ?_)).mono fun e w' hq => DecPost.bad hD hq
      by_cases hx : 8 * r.length < x2
      · exact pos_bad A c r.length x2 x1 W hx (by omega)
      · rcases hb4 with h4 | h4
        · exact absurd h4 hx
        · refine (HPS (by omega) W A c hB).mono fun e w' hq => ?_
          obtain ⟨h2, h3⟩ := hq
          rcases h2 with ⟨_, he⟩ | ⟨l, v, hl, _⟩
          · exact ⟨he, h3⟩
          · rw [h4] at hl; cases hl
    · have hx3 : x2 ≤ 8 * r.length := by
        have := fun hh => hb4 (.inl hh)
        omega
      obtain ⟨l, hl⟩ := Option.ne_none_iff_exists'.mp (fun hh => hb4 (.inr hh))
      have hD := dec_all ho hp h1 hx1 hq h2 hr hx3
      rw [hl, Option.bind_some] at hD
      have hll : l.length = x1 := by
        unfold Po.gaps at hl
        obtain ⟨s, hs, rfl⟩ := Option.map_eq_some_iff.mp hl
        exact (Po.gst_inv _ _ _ hs).2.2.2
      have HP1 : Hid (∀ W A c, Bs W A r.length c r → Calls Try.prog 73 #[.slice A r.length c, .int .i64 (x2 : Nat), .int .i64 (x1 : Nat)] W fun e w' => ∃ lA lc, e = .returned (.tuple #[.slice lA l.length lc, .bool true]) ∧ Kd.C (Kd.int .i64) w' lA l.length l ∧ Below W.heap.size W w') := Lib.hid (fun W A c hB => by
        refine (HPS hx3 W A c hB).mono fun e w' hq => ?_
        obtain ⟨h2, h3⟩ := hq
        rcases h2 with ⟨h4, _⟩ | ⟨l1, v, hl1, _, he, ho⟩
        · rw [hl] at h4; cases h4
        · rw [hl] at hl1
          obtain rfl := Option.some.inj hl1
          obtain ⟨lA, lc, rfl, _, hC⟩ := own_C rfl ho
          exact ⟨lA, lc, he, hC, h3⟩)
      by_cases hb5 : Po.errF l = 0
      · have HBU : Hid (∀ W A c, Kd.C (Kd.int .i64) W A l.length l → Calls Try.prog 62 #[.slice A l.length c] W fun e w' => ∃ la gv sv, e = .returned (.tuple #[.pointer (some ⟨la, 0, none⟩), .int .i64 0]) ∧ IsList W.heap.size w' la gv sv l ∧ Below W.heap.size W w') := Lib.hid (fun W A c hC => by
          refine (build_calls A c l W hC (by omega)).mono fun e w' hq => ?_
          obtain ⟨h1, h2⟩ := hq
          rcases h1 with ⟨hne, _⟩ | ⟨_, la, gv, sv, he, hL⟩
          · exact absurd hb5 hne
          · exact ⟨la, gv, sv, he, hL, h2⟩)
        have HEN : Hid (∀ B la gv sv W, IsList B W la gv sv l → Calls Try.prog 37 #[.pointer (some ⟨la, 0, none⟩)] W fun e w' => ∃ A c, e = .returned (.slice A (Po.Enc l).length c) ∧ Bs w' A (Po.Enc l).length c (Po.Enc l) ∧ Below W.heap.size W w') := Lib.hid (fun B la gv sv W hL => enB_calls hL _ rfl)
        have HEQ : Hid (∀ W A1 c1, Bs W A1 (Po.Enc l).length c1 (Po.Enc l) → Below w.heap.size w W → Calls Try.prog 74 #[.slice A1 (Po.Enc l).length c1, .slice A n c] W fun e w' => e = .returned (.bool (decide (Po.Enc l = b))) ∧ Below W.heap.size W w') := Lib.hid (fun W A1 c1 hB hW => eqB_calls hB (HA W hW))
        by_cases hb6 : Po.Enc l = b
        · have hS : Po.dec b = some l := by rw [hD, Po.fin, if_pos ⟨hb5, hb6⟩]
          refine (dc_ok A n c w p.length x1 k1 q.length x2 k2 r.length p q r HU H1 hK1 H2 hK2 hx1 (by omega) hx2 l _ _ (decide_eq_true hb6) HP1 HBU HEN HEQ).mono fun e w' hq => ?_
          obtain ⟨la, gv, sv, he, hL, hB⟩ := hq
          exact ⟨.inr ⟨l, la, gv, sv, hS, he, hL⟩, hB⟩
        · have hN : Po.dec b = none := by rw [hD, Po.fin, if_neg (fun hh => hb6 hh.2)]
          exact (dc_enc A n c w p.length x1 k1 q.length x2 k2 r.length p q r HU H1 hK1 H2 hK2 hx1 (by omega) hx2 l _ _ (decide_eq_false hb6) HP1 HBU HEN HEQ).mono fun e w' hq => DecPost.bad hN hq
      · have hN : Po.dec b = none := by rw [hD, Po.fin, if_neg (fun hh => hb5 hh.1)]
        refine (dc_build A n c w p.length x1 k1 q.length x2 k2 r.length p q r HU H1 hK1 H2 hK2 hx1 (by omega) hx2 l (Po.errF l) HP1 (Lib.hid fun W A c hC => ?_) hb5).mono fun e w' hq => DecPost.bad hN hq
        refine (build_calls A c l W hC (by omega)).mono fun e w' hq => ?_
        obtain ⟨h1, h2⟩ := hq
        rcases h1 with ⟨_, he⟩ | ⟨h0, _⟩
        · exact ⟨he, h2⟩
        · exact absurd h0 hb5
end Go.Proofs.Ytmeojlamadcedaa
