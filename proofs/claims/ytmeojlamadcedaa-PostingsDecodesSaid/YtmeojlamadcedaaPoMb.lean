/- The reference's Unseal, Unpack, Check and Decode; PostingsDecodes.
   Conditions: those of the theorems. -/
import Derived.Test.YtmeojlamadcedaaPoRn
import Derived.Test.YtmeojlamadcedaaPoRd
import Derived.Test.YtmeojlamadcedaaPoSk
import Derived.Test.YtmeojlamadcedaaPoMa
import Derived.Test.YtmeojlamadcedaaPoAll

namespace Go.Proofs.Ytmeojlamadcedaa
set_option linter.unusedSimpArgs false
set_option linter.unusedVariables false
open Go.RowKit Go.Sort Go.Proofs.YtmeojlamadcedaaW.PrintWords Go.Proofs.YtmeojlamadcedaaW.PrintLast Go.Proofs.YtmeojlamadcedaaW.PrintMore

theorem rUn_any {A : Option Addr} {n c : Nat} {b : List UInt8} {w : World} (h : Bs w A n c b) (hl : n < 1000000000) (h4 : ¬ b.length < 4) (pn : Nat) (hpn : pn = n - 4) (d : Bool) (hd : decide (Po.Opens b) = d) :
    Calls Try.prog 33 #[.slice A n c] w fun e w' => ∃ A1 c1, e = .returned (.tuple #[.slice A1 pn c1, .bool d]) ∧ Bs w' A1 pn c1 (b.take (b.length - 4)) ∧ Below w.heap.size w w' := by
  have hbl := h.len
  obtain ⟨ad, rfl, -⟩ := h.rds.2.2 (by omega)
  have hn4 : (Given.ints b).length = pn + 4 := by rw [Given.ints_len]; omega
  have h1 := Given.runseal_long ad c pn (Given.ints b) w h.C (by rw [Given.ints_len, ← hbl]; exact h.cap) (Given.byt_ints b) (by rw [Given.ints_len]; omega) hn4
  have he := Given.unseals_eq pn (Given.ints b) hn4
  rw [Given.u8s_ints, Given.ints_len] at he
  have hd2 : decide (Ck.le4 (Ck.sum (b.take (b.length - 4))) = b.drop (b.length - 4)) = d := by
    rw [← hd]
    exact decide_eq_decide.mpr ⟨fun hh => ⟨h4, hh⟩, fun hh => hh.2⟩
  rw [hd2] at he
  rw [Given.ints_len, ← hbl] at h1
  refine h1.mono fun e w' hq => ?_
  obtain ⟨v, he2, hT, hb⟩ := hq
  rw [he] at he2
  have ht : (Given.ints b).take pn = Given.ints (b.take (b.length - 4)) := by
    rw [show b.length - 4 = pn by omega]; exact List.map_take.symm
  rw [ht] at hT
  obtain ⟨A1, c1, rfl, hB⟩ := Bs.ofTxt (n := pn) (by rw [List.length_take]; omega) hT
  exact ⟨A1, c1, he2, hB, hb⟩
theorem rUn_shut {A : Option Addr} {n c : Nat} {b : List UInt8} {w : World} (h : Bs w A n c b) (hl : n < 1000000000) (ho : ¬ Po.Opens b) :
    Calls Try.prog 33 #[.slice A n c] w fun e w' => ∃ v, e = .returned (.tuple #[v, .bool false]) ∧ Below w.heap.size w w' := by
  by_cases h4 : b.length < 4
  · have h1 := Given.runseal_short A c (Given.ints b) w (by rw [Given.ints_len]; exact h4)
    rw [Given.ints_len, ← h.len] at h1
    exact h1.mono fun e w' hq => ⟨_, hq.1, hq.2⟩
  · refine (rUn_any h hl h4 _ rfl false (decide_eq_false ho)).mono fun e w' hq => ?_
    obtain ⟨A1, c1, he, _, hb⟩ := hq
    exact ⟨_, he, hb⟩
theorem unpackO_calls {A : Option Addr} {n c : Nat} {b : List UInt8} {w : World} (h : Bs w A n c b) (hl : n < 1000000000) (m : Nat) (hm : m ≤ 8 * n) :
    Calls Try.prog 82 #[.slice A n c, .int .i64 (m : Nat)] w fun e w' => ∃ A1 c1, e = .returned (.slice A1 m c1) ∧ w'.ownsRow w.heap.size 4 1 (.slice A1 m c1) m (encs Value.bool (Po.unpack b m)) ∧ Below w.heap.size w w' := by
  obtain ⟨q, hq⟩ := Ev.rounds (Po.unpack_ev b m (by rw [← h.len]; exact hm) (by rw [← h.len]; exact hl))
  have h1 := D.corporaref02_Unpack.calls q A c (Given.ints b) _ _ w h.C (by rw [Given.ints_len, ← h.len]; exact h.cap) hq
  rw [Given.ints_len, ← h.len] at h1
  refine h1.mono fun e w' hq => ?_
  obtain ⟨v, rfl, hR, hb⟩ := hq
  have ho := Kd.own_of_R (enc := Value.bool) (h1 := fun _ => rfl) hR
  obtain ⟨A1, c1, rfl⟩ := Kd.R_slice hR
  rw [Po.unpack_len] at ho
  rw [Po.unpack_len]
  exact ⟨A1, c1, rfl, ho, hb⟩
theorem checkB_calls {A : Option Addr} {c : Nat} {l : List Int} {w : World} (hC : Kd.C (Kd.int .i64) w A l.length l) (hc : l.length ≤ c) (hl : l.length < 1000000) :
    Calls Try.prog 70 #[.slice A l.length c] w fun e w' => e = .returned (.int .i64 (Po.errF l)) ∧ Below w.heap.size w w' := by
  obtain ⟨k, hk⟩ := check_ev l hl
  refine (R.corporaref17_Check.calls k A c l (Po.errF l) w hC hc hk).mono fun e w' hq => ?_
  obtain ⟨he, ⟨q, rfl⟩⟩ := hq
  exact ⟨he, below_drewN (Below.refl _ _) q⟩
end Go.Proofs.Ytmeojlamadcedaa

namespace Go.Proofs.Ytmeojlamadcedaa
set_option linter.unusedSimpArgs false
set_option linter.unusedVariables false
open Go.RowKit Go.Sort Go.Proofs.YtmeojlamadcedaaW.PrintWords Go.Proofs.YtmeojlamadcedaaW.PrintLast Go.Proofs.YtmeojlamadcedaaW.PrintMore

/-- What the reference's Decode leaves behind. -/
def DecR (w : World) (b : List UInt8) (e : Ending) (w' : World) : Prop :=
  (Po.dec b = none ∧ e = .returned (.tuple #[.slice none 0 0, .bool false]) ∨
    ∃ l A1 c1, Po.dec b = some l ∧ e = .returned (.tuple #[.slice A1 l.length c1, .bool true]) ∧ l.length ≤ c1 ∧ Kd.C (Kd.int .i64) w' A1 l.length l) ∧ Below w.heap.size w w'
theorem DecR.bad {w : World} {b : List UInt8} {e : Ending} {w' : World} (h : Po.dec b = none) (hq : e = .returned (.tuple #[.slice none 0 0, .bool false]) ∧ Below w.heap.size w w') : DecR w b e w' := ⟨.inl ⟨h, hq.1⟩, hq.2⟩

set_option maxHeartbeats 1000000 in
set_option maxRecDepth 100000 in
theorem rc_shut (A : Option Addr) (n c : Nat) (w : World)
    (HUN : Hid (Calls Try.prog 33 #[.slice A n c] w fun e w' => ∃ v, e = .returned (.tuple #[v, .bool false]) ∧ Below w.heap.size w w')) :
    Calls Try.prog 44 #[.slice A n c] w fun e w' => e = .returned (.tuple #[.slice none 0 0, .bool false]) ∧ Below w.heap.size w w' := by
  go_enter Try.func44, Try.ntmps44
  go_wp2_with (first
    | (go_at_call 33; (with_reducible refine HUN.out.mono ?_); rintro e w1 ⟨v1, rfl, hb⟩; have HB1 := Lib.hid hb; clear hb))
  go_ret2
  exact ⟨rfl, HB1.out⟩

set_option maxHeartbeats 1000000 in
set_option maxRecDepth 100000 in
theorem rc_uv1e (A : Option Addr) (n c : Nat) (w : World)
    (pn x1 k1 : Nat) (e1 : Int) (p : List UInt8)
    (HUN : Hid (Calls Try.prog 33 #[.slice A n c] w fun e w' => ∃ A1 c1, e = .returned (.tuple #[.slice A1 pn c1, .bool true]) ∧ Bs w' A1 pn c1 p ∧ Below w.heap.size w w'))
    (HT1 : Hid (∀ W A c, Bs W A pn c p → Calls Try.prog 81 #[.slice A pn c] W fun e w' => e = .returned (.tuple #[.int .u64 (x1 : Nat), .int .i64 (k1 : Nat), .int .i64 e1]) ∧ Below W.heap.size W w'))
    (h0 : e1 ≠ 0) :
    Calls Try.prog 44 #[.slice A n c] w fun e w' => e = .returned (.tuple #[.slice none 0 0, .bool false]) ∧ Below w.heap.size w w' := by
  have hd1 : decide (e1 = 0) = false := by simpa using h0
  have hd2 : (e1 == 0) = false := by simpa using h0
  have hd3 : (e1 != 0) = true := by simpa using h0
  clear h0
  go_enter Try.func44, Try.ntmps44
  go_wp2_with (first
    | (go_at_call 33; (with_reducible refine HUN.out.mono ?_); rintro e w1 ⟨pA, pc, rfl, hbs, hb⟩; have HB1 := Lib.hid hb; have HP1 := Lib.hid hbs; clear hb hbs)
    | (go_at_call 81; (with_reducible refine (HT1.out _ _ _ HP1.out).mono ?_); rintro e w2 ⟨rfl, hb⟩; have HB2 := Lib.hid (HB1.out.trans (hb.mono HB1.out.size)); clear hb))
  go_ret2
  exact ⟨rfl, HB2.out⟩

set_option maxHeartbeats 1000000 in
set_option maxRecDepth 100000 in
theorem rc_uv1x (A : Option Addr) (n c : Nat) (w : World)
    (pn x1 k1 : Nat) (p : List UInt8)
    (HUN : Hid (Calls Try.prog 33 #[.slice A n c] w fun e w' => ∃ A1 c1, e = .returned (.tuple #[.slice A1 pn c1, .bool true]) ∧ Bs w' A1 pn c1 p ∧ Below w.heap.size w w'))
    (HT1 : Hid (∀ W A c, Bs W A pn c p → Calls Try.prog 81 #[.slice A pn c] W fun e w' => e = .returned (.tuple #[.int .u64 (x1 : Nat), .int .i64 (k1 : Nat), .int .i64 0]) ∧ Below W.heap.size W w'))
    (h0 : 4096 < x1) :
    Calls Try.prog 44 #[.slice A n c] w fun e w' => e = .returned (.tuple #[.slice none 0 0, .bool false]) ∧ Below w.heap.size w w' := by
  have hd1 : decide ((4096 : Int) < (x1 : Int)) = true := by simp; omega
  clear h0
  go_enter Try.func44, Try.ntmps44
  go_wp2_with (first
    | (go_at_call 33; (with_reducible refine HUN.out.mono ?_); rintro e w1 ⟨pA, pc, rfl, hbs, hb⟩; have HB1 := Lib.hid hb; have HP1 := Lib.hid hbs; clear hb hbs)
    | (go_at_call 81; (with_reducible refine (HT1.out _ _ _ HP1.out).mono ?_); rintro e w2 ⟨rfl, hb⟩; have HB2 := Lib.hid (HB1.out.trans (hb.mono HB1.out.size)); clear hb))
  go_ret2
  exact ⟨rfl, HB2.out⟩

set_option maxHeartbeats 1000000 in
set_option maxRecDepth 100000 in
theorem rc_uv2e (A : Option Addr) (n c : Nat) (w : World)
    (pn x1 k1 qn x2 k2 : Nat) (p q : List UInt8)
    (HUN : Hid (Calls Try.prog 33 #[.slice A n c] w fun e w' => ∃ A1 c1, e = .returned (.tuple #[.slice A1 pn c1, .bool true]) ∧ Bs w' A1 pn c1 p ∧ Below w.heap.size w w'))
    (HT1 : Hid (∀ W A c, Bs W A pn c p → Calls Try.prog 81 #[.slice A pn c] W fun e w' => e = .returned (.tuple #[.int .u64 (x1 : Nat), .int .i64 (k1 : Nat), .int .i64 0]) ∧ Below W.heap.size W w'))
    (HK1 : Hid (k1 ≤ pn ∧ qn = pn - k1 ∧ q = p.drop k1))
    (e2 : Int)
    (HT2 : Hid (∀ W A c, Bs W A qn c q → Calls Try.prog 81 #[.slice A qn c] W fun e w' => e = .returned (.tuple #[.int .u64 (x2 : Nat), .int .i64 (k2 : Nat), .int .i64 e2]) ∧ Below W.heap.size W w'))
    (hx1 : x1 ≤ 4096) (h0 : e2 ≠ 0) :
    Calls Try.prog 44 #[.slice A n c] w fun e w' => e = .returned (.tuple #[.slice none 0 0, .bool false]) ∧ Below w.heap.size w w' := by
  have hd1 : decide (e2 = 0) = false := by simpa using h0
  have hd2 : (e2 == 0) = false := by simpa using h0
  have hd3 : (e2 != 0) = true := by simpa using h0
  have hm1 : decide ((4096 : Int) < (x1 : Int)) = false := by simp; omega
  clear h0 hx1
  go_enter Try.func44, Try.ntmps44
  go_wp2_with (first
    | (go_at_call 33; (with_reducible refine HUN.out.mono ?_); rintro e w1 ⟨pA, pc, rfl, hbs, hb⟩; have HB1 := Lib.hid hb; have HP1 := Lib.hid hbs; clear hb hbs)
    | (go_at_call_of 81 (Value.slice pA pn pc); (with_reducible refine (HT1.out _ _ _ HP1.out).mono ?_); rintro e w2 ⟨rfl, hb⟩; have HB2 := Lib.hid (HB1.out.trans (hb.mono HB1.out.size)); have HP2 := Lib.hid (HP1.out.below hb); obtain ⟨qA, qc, hcut, hq⟩ := HP2.out.cut k1 qn q HK1.out.1 HK1.out.2.1 HK1.out.2.2; have HQ2 := Lib.hid (hq _ HP2.out); clear hb hq)
    | (go_at_call 81; (with_reducible refine (HT2.out _ _ _ HQ2.out).mono ?_); rintro e w3 ⟨rfl, hb⟩; have HB3 := Lib.hid (HB2.out.trans (hb.mono HB2.out.size)); clear hb))
  go_ret2
  exact ⟨rfl, HB3.out⟩

set_option maxHeartbeats 1000000 in
set_option maxRecDepth 100000 in
theorem rc_uv2x (A : Option Addr) (n c : Nat) (w : World)
    (pn x1 k1 qn x2 k2 : Nat) (p q : List UInt8)
    (HUN : Hid (Calls Try.prog 33 #[.slice A n c] w fun e w' => ∃ A1 c1, e = .returned (.tuple #[.slice A1 pn c1, .bool true]) ∧ Bs w' A1 pn c1 p ∧ Below w.heap.size w w'))
    (HT1 : Hid (∀ W A c, Bs W A pn c p → Calls Try.prog 81 #[.slice A pn c] W fun e w' => e = .returned (.tuple #[.int .u64 (x1 : Nat), .int .i64 (k1 : Nat), .int .i64 0]) ∧ Below W.heap.size W w'))
    (HK1 : Hid (k1 ≤ pn ∧ qn = pn - k1 ∧ q = p.drop k1))
    (HT2 : Hid (∀ W A c, Bs W A qn c q → Calls Try.prog 81 #[.slice A qn c] W fun e w' => e = .returned (.tuple #[.int .u64 (x2 : Nat), .int .i64 (k2 : Nat), .int .i64 0]) ∧ Below W.heap.size W w'))
    (hx1 : x1 ≤ 4096) (h0 : 1048576 < x2) :
    Calls Try.prog 44 #[.slice A n c] w fun e w' => e = .returned (.tuple #[.slice none 0 0, .bool false]) ∧ Below w.heap.size w w' := by
  have hm1 : decide ((4096 : Int) < (x1 : Int)) = false := by simp; omega
  have hd1 : decide ((1048576 : Int) < (x2 : Int)) = true := by simp; omega
  clear h0 hx1
  go_enter Try.func44, Try.ntmps44
  go_wp2_with (first
    | (go_at_call 33; (with_reducible refine HUN.out.mono ?_); rintro e w1 ⟨pA, pc, rfl, hbs, hb⟩; have HB1 := Lib.hid hb; have HP1 := Lib.hid hbs; clear hb hbs)
    | (go_at_call_of 81 (Value.slice pA pn pc); (with_reducible refine (HT1.out _ _ _ HP1.out).mono ?_); rintro e w2 ⟨rfl, hb⟩; have HB2 := Lib.hid (HB1.out.trans (hb.mono HB1.out.size)); have HP2 := Lib.hid (HP1.out.below hb); obtain ⟨qA, qc, hcut, hq⟩ := HP2.out.cut k1 qn q HK1.out.1 HK1.out.2.1 HK1.out.2.2; have HQ2 := Lib.hid (hq _ HP2.out); clear hb hq)
    | (go_at_call 81; (with_reducible refine (HT2.out _ _ _ HQ2.out).mono ?_); rintro e w3 ⟨rfl, hb⟩; have HB3 := Lib.hid (HB2.out.trans (hb.mono HB2.out.size)); clear hb))
  go_ret2
  exact ⟨rfl, HB3.out⟩

set_option maxHeartbeats 1000000 in
set_option maxRecDepth 100000 in
theorem rc_uv2y (A : Option Addr) (n c : Nat) (w : World)
    (pn x1 k1 qn x2 k2 : Nat) (p q : List UInt8)
    (HUN : Hid (Calls Try.prog 33 #[.slice A n c] w fun e w' => ∃ A1 c1, e = .returned (.tuple #[.slice A1 pn c1, .bool true]) ∧ Bs w' A1 pn c1 p ∧ Below w.heap.size w w'))
    (HT1 : Hid (∀ W A c, Bs W A pn c p → Calls Try.prog 81 #[.slice A pn c] W fun e w' => e = .returned (.tuple #[.int .u64 (x1 : Nat), .int .i64 (k1 : Nat), .int .i64 0]) ∧ Below W.heap.size W w'))
    (HK1 : Hid (k1 ≤ pn ∧ qn = pn - k1 ∧ q = p.drop k1))
    (HT2 : Hid (∀ W A c, Bs W A qn c q → Calls Try.prog 81 #[.slice A qn c] W fun e w' => e = .returned (.tuple #[.int .u64 (x2 : Nat), .int .i64 (k2 : Nat), .int .i64 0]) ∧ Below W.heap.size W w'))
    (ks rn : Nat) (r : List UInt8) (HK2 : Hid (ks ≤ pn ∧ rn = pn - ks ∧ r = p.drop ks)) (hks : ks = k1 + k2) (hk2 : k2 ≤ qn)
    (hx1 : x1 ≤ 4096) (hpn : pn < 100000) (hx2 : x2 ≤ 1048576)
    (h0 : 8 * rn < x2) :
    Calls Try.prog 44 #[.slice A n c] w fun e w' => e = .returned (.tuple #[.slice none 0 0, .bool false]) ∧ Below w.heap.size w w' := by
  have hm1 : decide ((4096 : Int) < (x1 : Int)) = false := by simp; omega
  obtain ⟨y7, hy7⟩ : ∃ y, x2 + 7 = y := ⟨_, rfl⟩
  obtain ⟨y8, hy8⟩ : ∃ y, y7 / 8 = y := ⟨_, rfl⟩
  have hk1 := HK1.out
  have hkk := HK2.out
  have H1 : Hid (IntKind.u64.wrap ((x2 : Int) + 7) = (y7 : Int)) := Lib.hid (by rw [show (x2 : Int) + 7 = (y7 : Int) by omega]; exact Po.u64w (by omega))
  have H2 : Hid (RowKit.wrap64 (y7 : Int) = (y7 : Int)) := Lib.hid (wsmall' rfl (by omega) (by omega))
  have h3 : Int.tdiv (y7 : Int) 8 = (y8 : Int) := by rw [Int.tdiv_eq_ediv_of_nonneg (by omega)]; omega
  have h4 : (y7 : Int) / 8 = (y8 : Int) := by omega
  have H5 : Hid (RowKit.wrap64 (y8 : Int) = (y8 : Int)) := Lib.hid (wsmall' rfl (by omega) (by omega))
  have H6 : Hid (RowKit.wrap64 ((pn : Int) - (k1 : Int)) = (qn : Int)) := Lib.hid (wsmall' (by omega) (by omega) (by omega))
  have H7 : Hid (RowKit.wrap64 ((qn : Int) - (k2 : Int)) = (rn : Int)) := Lib.hid (wsmall' (by omega) (by omega) (by omega))
  have hd1 : decide ((1048576 : Int) < (x2 : Int)) = false := by simp; omega
  have hn2 : rn < y8 := by have := HK2.out; omega
  have hd2 : decide ((rn : Int) < (y8 : Int)) = true := by simp; exact hn2
  have hd3 : decide (rn < y8) = true := decide_eq_true hn2
  clear h0 hx1 hpn hx2 hks hk2 hk1 hkk hy7 hy8
  have v1 := H1.out
  have v2 := H2.out
  have v5 := H5.out
  have v6 := H6.out
  have v7 := H7.out
  go_enter Try.func44, Try.ntmps44
  go_wp2_with (first
    | (go_at_call 33; (with_reducible refine HUN.out.mono ?_); rintro e w1 ⟨pA, pc, rfl, hbs, hb⟩; have HB1 := Lib.hid hb; have HP1 := Lib.hid hbs; clear hb hbs)
    | (go_at_call_of 81 (Value.slice pA pn pc); (with_reducible refine (HT1.out _ _ _ HP1.out).mono ?_); rintro e w2 ⟨rfl, hb⟩; have HB2 := Lib.hid (HB1.out.trans (hb.mono HB1.out.size)); have HP2 := Lib.hid (HP1.out.below hb); obtain ⟨qA, qc, hcut, hq⟩ := HP2.out.cut k1 qn q HK1.out.1 HK1.out.2.1 HK1.out.2.2; have HQ2 := Lib.hid (hq _ HP2.out); clear hb hq)
    | (go_at_call 81; (with_reducible refine (HT2.out _ _ _ HQ2.out).mono ?_); rintro e w3 ⟨rfl, hb⟩; have HB3 := Lib.hid (HB2.out.trans (hb.mono HB2.out.size)); clear hb))
  go_ret2
  exact ⟨rfl, HB3.out⟩

set_option maxHeartbeats 1000000 in
set_option maxRecDepth 100000 in
theorem rc_loop (A : Option Addr) (n c : Nat) (w : World)
    (pn x1 k1 qn x2 k2 : Nat) (p q : List UInt8)
    (HUN : Hid (Calls Try.prog 33 #[.slice A n c] w fun e w' => ∃ A1 c1, e = .returned (.tuple #[.slice A1 pn c1, .bool true]) ∧ Bs w' A1 pn c1 p ∧ Below w.heap.size w w'))
    (HT1 : Hid (∀ W A c, Bs W A pn c p → Calls Try.prog 81 #[.slice A pn c] W fun e w' => e = .returned (.tuple #[.int .u64 (x1 : Nat), .int .i64 (k1 : Nat), .int .i64 0]) ∧ Below W.heap.size W w'))
    (HK1 : Hid (k1 ≤ pn ∧ qn = pn - k1 ∧ q = p.drop k1))
    (HT2 : Hid (∀ W A c, Bs W A qn c q → Calls Try.prog 81 #[.slice A qn c] W fun e w' => e = .returned (.tuple #[.int .u64 (x2 : Nat), .int .i64 (k2 : Nat), .int .i64 0]) ∧ Below W.heap.size W w'))
    (ks rn : Nat) (r : List UInt8) (HK2 : Hid (ks ≤ pn ∧ rn = pn - ks ∧ r = p.drop ks)) (hks : ks = k1 + k2) (hk2 : k2 ≤ qn)
    (hx1 : x1 ≤ 4096) (hpn : pn < 100000) (hx2 : x2 ≤ 1048576)
    (b : List UInt8) (bl : List Bool)
    (HPU : Hid (∀ W A c, Bs W A rn c r → Calls Try.prog 82 #[.slice A rn c, .int .i64 (x2 : Nat)] W fun e w' => ∃ A1 c1, e = .returned (.slice A1 x2 c1) ∧ w'.ownsRow W.heap.size 4 1 (.slice A1 x2 c1) x2 (encs Value.bool bl) ∧ Below W.heap.size W w'))
    (HA : Hid (∀ W, Below w.heap.size w W → Bs W A n c b)) (hbl : bl.length = x2) (h0 : x2 ≤ 8 * rn) (HDE : Hid (Po.dec b = ((Po.gst bl x1).map fun s => s.2.2).bind (Po.fin b))) :
    Calls Try.prog 44 #[.slice A n c] w fun e w' => DecR w b e w' := by
  have hm1 : decide ((4096 : Int) < (x1 : Int)) = false := by simp; omega
  obtain ⟨y7, hy7⟩ : ∃ y, x2 + 7 = y := ⟨_, rfl⟩
  obtain ⟨y8, hy8⟩ : ∃ y, y7 / 8 = y := ⟨_, rfl⟩
  have hk1 := HK1.out
  have hkk := HK2.out
  have H1 : Hid (IntKind.u64.wrap ((x2 : Int) + 7) = (y7 : Int)) := Lib.hid (by rw [show (x2 : Int) + 7 = (y7 : Int) by omega]; exact Po.u64w (by omega))
  have H2 : Hid (RowKit.wrap64 (y7 : Int) = (y7 : Int)) := Lib.hid (wsmall' rfl (by omega) (by omega))
  have h3 : Int.tdiv (y7 : Int) 8 = (y8 : Int) := by rw [Int.tdiv_eq_ediv_of_nonneg (by omega)]; omega
  have h4 : (y7 : Int) / 8 = (y8 : Int) := by omega
  have H5 : Hid (RowKit.wrap64 (y8 : Int) = (y8 : Int)) := Lib.hid (wsmall' rfl (by omega) (by omega))
  have H6 : Hid (RowKit.wrap64 ((pn : Int) - (k1 : Int)) = (qn : Int)) := Lib.hid (wsmall' (by omega) (by omega) (by omega))
  have H7 : Hid (RowKit.wrap64 ((qn : Int) - (k2 : Int)) = (rn : Int)) := Lib.hid (wsmall' (by omega) (by omega) (by omega))
  have hd1 : decide ((1048576 : Int) < (x2 : Int)) = false := by simp; omega
  have hn2 : ¬ rn < y8 := by have := HK2.out; omega
  have hn3 : y8 ≤ rn := by omega
  have hd2 : decide ((rn : Int) < (y8 : Int)) = false := by simp; exact hn3
  have hd3 : decide (rn < y8) = false := decide_eq_false hn2
  have H8 : Hid (RowKit.wrap64 ((k1 : Int) + (k2 : Int)) = (ks : Int)) := Lib.hid (wsmall' (by omega) (by omega) (by omega))
  have H9 : Hid (RowKit.wrap64 (x2 : Int) = (x2 : Int)) := Lib.hid (wsmall' rfl (by omega) (by omega))
  have HX1 := Lib.hid hx1
  have HX2 := Lib.hid hx2
  have HBLL := Lib.hid hbl
  clear h0 hx1 hpn hx2 hks hk2 hk1 hkk hy7 hy8 hbl
  have v1 := H1.out
  have v2 := H2.out
  have v5 := H5.out
  have v6 := H6.out
  have v7 := H7.out
  have v8 := H8.out
  have v9 := H9.out
  go_enter Try.func44, Try.ntmps44
  go_wp2_with (first
    | (go_at_call 33; (with_reducible refine HUN.out.mono ?_); rintro e w1 ⟨pA, pc, rfl, hbs, hb⟩; have HB1 := Lib.hid hb; have HP1 := Lib.hid hbs; clear hb hbs)
    | (go_at_call_of 81 (Value.slice pA pn pc); (with_reducible refine (HT1.out _ _ _ HP1.out).mono ?_); rintro e w2 ⟨rfl, hb⟩; have HB2 := Lib.hid (HB1.out.trans (hb.mono HB1.out.size)); have HP2 := Lib.hid (HP1.out.below hb); obtain ⟨qA, qc, hcut, hq⟩ := HP2.out.cut k1 qn q HK1.out.1 HK1.out.2.1 HK1.out.2.2; have HQ2 := Lib.hid (hq _ HP2.out); clear hb hq)
    | (go_at_call 81; (with_reducible refine (HT2.out _ _ _ HQ2.out).mono ?_); rintro e w3 ⟨rfl, hb⟩; have HB3 := Lib.hid (HB2.out.trans (hb.mono HB2.out.size)); have HP3 := Lib.hid (HP2.out.below hb); obtain ⟨rA, rc, hcut2, hr⟩ := HP3.out.cut ks rn r HK2.out.1 HK2.out.2.1 HK2.out.2.2; have HR3 := Lib.hid (hr _ HP3.out); clear hb hr)
    | (go_at_call 82; (with_reducible refine (HPU.out _ _ _ HR3.out).mono ?_); rintro e w4 ⟨bA, bc, rfl, ho, hb⟩; have HB4 := Lib.hid (HB3.out.trans (hb.mono HB3.out.size)); have HO4 := Lib.hid (own_less ho HB3.out.size); clear hb ho))
  clear v1 v2 v5 v6 v7 v8 v9 h3 h4 hcut hcut2 hd1 hd2 hd3 hn2 hn3 hm1 HPU HT1 HT2 HUN HP1 HP2 HP3 HQ2 HR3 HB1 HB2 HB3
  go_loopg [12, 13, 14, 15] x1 (fun kx s12 s13 s14 s15 wr => ∃ (i p : Nat) (last : Int) (acc : List Int) (m1 : Nat) (W : World), W = wr ∧ s13 = .int .i64 p ∧ s14 = .int .i64 last ∧ s15 = .int .u64 i ∧ i ≤ x1 ∧ x1 - i ≤ kx ∧ Po.gst bl i = some (p, last, acc) ∧ wr.ownsRow w.heap.size 4 1 (.slice bA x2 bc) x2 (encs Value.bool bl) ∧ m1 = acc.length ∧ wr.ownsRow w.heap.size 3 1 s12 m1 (nums .i64 acc) ∧ Below w.heap.size w wr)
  case atStart => exact ⟨0, 0, -1, [], 0, _, rfl, rfl, rfl, rfl, Nat.zero_le _, by omega, rfl, HO4.out, rfl, World.ownsRow_nil _ _ _ _, HB4.out⟩
  case round =>
    obtain ⟨i, p, last, acc, m1, W2, rfl, rfl, rfl, rfl, hi, hk, hst, hbits, hm1, hown, hbel⟩ := hrel
    clear HO4 HB4
    have HBI := Lib.hid hbits
    have HBW := Lib.hid hbel
    have HST := Lib.hid hst
    have HKX := Lib.hid hk
    have HI := Lib.hid hi
    have hinv := Po.gst_inv bl i _ hst
    have hlo : -1 ≤ last := hinv.2.1
    have hhi : last ≤ 2147483648 * (i : Int) := hinv.2.2.1
    have HAL : Hid (acc.length = i) := Lib.hid hinv.2.2.2
    have hpl : p ≤ bl.length := hinv.1
    have hxx := HX1.out
    by_cases hlt : i < x1
    · obtain ⟨oA, oC, rfl⟩ := own_slice hown
      have HOWN := Lib.hid hown
      have HM1 := Lib.hid hm1
      clear hbits hown hm1 hbel hk hinv
      have hz : decide ((i : Int) < (x1 : Int)) = true := by simp; omega
      have HBB : Hid (Bb W2 bA x2 bc bl) := Lib.hid (own_Bb HBLL.out.symm HBI.out)
      obtain ⟨D, hD⟩ : ∃ D, Po.deltaF bl p = D := ⟨_, rfl⟩
      obtain ⟨g, p2, er⟩ := D
      have HRE : Hid (Calls Try.prog 83 #[.slice bA x2 bc, .int .i64 (p : Nat), .agg #[.int .i64 3, .int .u64 0, .int .i64 0]] W2 fun e w' => e = .returned (.tuple #[.int .u64 (g : Nat), .int .i64 (p2 : Nat), .int .i64 er]) ∧ Below W2.heap.size W2 w') := Lib.hid (by
        have h := readD_calls HBB.out (by have := HX2.out; omega) p (by rw [← HBLL.out]; exact hpl)
        rw [hD] at h
        exact h)
      have HLT := Lib.hid hlt
      by_cases hbad : er ≠ 0 ∨ 2147483648 < g
      · have hnone := Po.gst_none bl (i + 1) (Po.gst_bad bl i _ HST.out (by show (Po.deltaF bl p).2.2 ≠ 0 ∨ 2147483648 < (Po.deltaF bl p).1; rw [hD]; exact hbad)) x1 (by omega)
        have HNO : Hid (Po.dec b = none) := Lib.hid (by rw [HDE.out, hnone]; rfl)
        have hcases : (er ≠ 0) ∨ (er = 0 ∧ 2147483648 < g) := by
          by_cases h : er = 0
          · exact .inr ⟨h, by rcases hbad with h2 | h2; exact absurd h h2; exact h2⟩
          · exact .inl h
        clear hD hbad hnone hlo hhi hi hlt hst hpl hxx
        rcases hcases with h1 | ⟨rfl, h1⟩
        · have hd1 : decide (er = 0) = false := by simpa using h1
          have hd2 : (er == 0) = false := by simpa using h1
          have hd3 : (er != 0) = true := by simpa using h1
          clear h1
          go_wp2_with (go_at_call 83; (with_reducible refine HRE.out.mono ?_); rintro e w5 ⟨rfl, hb⟩; have HB5 := Lib.hid (HBW.out.trans (hb.mono HBW.out.size)); clear hb)
          go_ret2
          exact ⟨.inl ⟨HNO.out, rfl⟩, HB5.out⟩
        · have hd1 : decide ((2147483648 : Int) < (g : Int)) = true := by simp; omega
          clear h1
          go_wp2_with (go_at_call 83; (with_reducible refine HRE.out.mono ?_); rintro e w5 ⟨rfl, hb⟩; have HB5 := Lib.hid (HBW.out.trans (hb.mono HBW.out.size)); clear hb)
          go_ret2
          exact ⟨.inl ⟨HNO.out, rfl⟩, HB5.out⟩
      · obtain ⟨rfl, hg⟩ : er = 0 ∧ g ≤ 2147483648 := by omega
        have hgood := Po.gst_good bl i _ HST.out (by show ¬ ((Po.deltaF bl p).2.2 ≠ 0 ∨ 2147483648 < (Po.deltaF bl p).1); rw [hD]; exact hbad)
        have HNX2 : Hid (Po.gst bl (i + 1) = some (p2, last + (g : Nat), acc ++ [last + (g : Nat)])) := Lib.hid (by
          have h := hgood
          dsimp only at h
          rw [hD] at h
          exact h)
        have hd1 : decide ((2147483648 : Int) < (g : Int)) = false := by simp; omega
        have X1 : Hid (RowKit.wrap64 (g : Int) = (g : Int)) := Lib.hid (wsmall' rfl (by omega) (by omega))
        have hlast2 : last ≤ 8796093022208 := by omega
        obtain ⟨nx, hnx⟩ : ∃ x, last + (g : Int) = x := ⟨_, rfl⟩
        have X2 : Hid (RowKit.wrap64 (last + (g : Int)) = nx) := Lib.hid (by rw [hnx]; unfold RowKit.wrap64; omega)
        have X3 : Hid (IntKind.u64.wrap ((i : Int) + 1) = ((i + 1 : Nat) : Int)) := Lib.hid (by rw [show (i : Int) + 1 = ((i + 1 : Nat) : Int) by omega]; exact Po.u64w (by omega))
        have HNL : Hid ((nums .i64 acc).length = m1) := Lib.hid (by rw [HM1.out, nums, List.length_map])
        have HMX : Hid (((nums .i64 acc).length + 1) * 8 ≤ 140737488355328) := Lib.hid (by rw [HNL.out, HM1.out]; have := HAL.out; omega)
        have HNS : Hid (nums .i64 acc ++ [.int .i64 nx] = nums .i64 (acc ++ [nx])) := Lib.hid (by rw [nums_append]; rfl)
        have HO2 : Hid (W2.ownsRow w.heap.size 3 1 (.slice oA m1 oC) (nums .i64 acc).length (nums .i64 acc)) := Lib.hid (by rw [HNL.out]; exact HOWN.out)
        rw [hnx] at HNX2
        clear hD hbad hlo hhi hlast2 hi hlt hg hgood hst hpl hxx hnx HOWN HM1 HNL
        generalize nums .i64 acc = ns at *
        have x1' := X1.out
        have x2' := X2.out
        have x3' := X3.out
        go_wp2_with (first
          | (go_at_call 83; (with_reducible refine HRE.out.mono ?_); rintro e w5 ⟨rfl, hb⟩; have HB5 := Lib.hid (HBW.out.trans (hb.mono HBW.out.size)); have HO5 := Lib.hid (own_later HO2.out hb); have HBI5 := Lib.hid (own_later HBI.out hb); clear hb)
          | ((with_reducible refine gate_dst (N := 100) rfl ?_); refine print_append (w0 := w) (W := w5) w.heap.size rfl (.tmp 97) (.tmp 99) 38 3 (.int .i64 0) 8 rfl (show Try.prog.underlying 38 = some (.slice 3) by kernel_rfl) (by kernel_rfl) rfl (by decide) (.slice oA m1 oC) ns (.int .i64 nx) rfl rfl rfl HO5.out HB5.out HB5.out.size HMX.out ?_
              ; intro v6 w6 hown6 hb6 hgr6 _
              ; have HO6 := Lib.hid hown6; have HB6 := Lib.hid hb6; have HBI6 := Lib.hid (grown_any HBI5.out HO5.out (by decide) hgr6); clear hown6 hb6 hgr6))
        go_roundg (x1 - (i + 1))
        case measure => clear x1' x2' x3'; have := HKX.out; have := HLT.out; omega
        case rel =>
          clear x1' x2' x3'
          have h5 := HO6.out
          rw [HNS.out] at h5
          exact ⟨i + 1, p2, nx, acc ++ [nx], _, _, rfl, rfl, by first | rfl | exact congrArg (Value.int .i64) X2.out, by first | exact congrArg (Value.int .u64) X3.out | rfl, HLT.out, Nat.le_refl _, HNX2.out, HBI6.out, by rw [nums, List.length_map], h5, HB6.out⟩
    · have hz : decide ((i : Int) < (x1 : Int)) = false := by simp; omega
      have hz2 : x1 ≤ i := by omega
      obtain ⟨oA, oC, rfl, hoc, hC⟩ := own_C hm1 hown
      have hix : i = x1 := by omega
      have HDE2 : Hid (Po.dec b = Po.fin b acc) := Lib.hid (by rw [HDE.out, ← hix, HST.out]; rfl)
      have HACL : Hid (acc.length ≤ 4096) := Lib.hid (by rw [HAL.out]; omega)
      obtain ⟨er, her⟩ : ∃ er, Po.errF acc = er := ⟨_, rfl⟩
      have HER := Lib.hid her
      have HCK : Hid (∀ W, Below W2.heap.size W2 W → Calls Try.prog 70 #[.slice oA acc.length oC] W fun e w' => e = .returned (.int .i64 er) ∧ Below W.heap.size W w') := Lib.hid (fun W hW => by
        have h := checkB_calls (Kd.C_below hC hW) hoc (by have := HACL.out; omega)
        rwa [her] at h)
      obtain ⟨s2, hs2⟩ : ∃ s, strOfNums (Given.ints b) = s := ⟨_, rfl⟩
      have HSC : Hid (∀ W, Below w.heap.size w W → (convert 22 9 (.slice A n c)).run Try.prog W = .ok (.string s2) W) := Lib.hid (fun W hW => by rw [← hs2]; exact (HA.out W hW).txt.run)
      have HCC := Lib.hid (And.intro hoc hC)
      clear hst hbits hm1 hown hbel hk hinv hlo hhi hpl hxx hlt hi HDE hix HBI HST HAL HI
      by_cases h0 : er = 0
      case neg =>
        have HNO : Hid (Po.dec b = none) := Lib.hid (by rw [HDE2.out, Po.fin, if_neg (fun hh => h0 (HER.out.symm.trans hh.1))])
        have hd1 : decide (er = 0) = false := by simpa using h0
        have hd2 : (er == 0) = false := by simpa using h0
        have hd3 : (er != 0) = true := by simpa using h0
        clear h0 her hs2 hoc hC
        go_wp2
        refine start_ (n := 11) (S := fun w' => (convert 22 9 (.slice A n c)).run Try.prog w' = .ok (.string s2) w') (ds := []) #[false, false, false, false, false, false, false, false, false, false, false] (by kernel_rfl) rfl rfl (HSC.out _ HBW.out.drew) (fun hHeld => ?_)
        refine pure_ (i := 0) (N := some 101) (v := ?_) (a' := ?_) #[true, false, false, false, false, false, false, false, false, false, false] rfl rfl (by kernel_rfl) (fun _ _ _ h => h) (Or.inl ⟨by rfl, ?_⟩) ?_ ?_
        rotate_left
        · intro w'
          go_simp
          with_reducible rfl
        rotate_left
        · simp only [Act.put, List.setIfInBounds_toArray, List.set_cons_zero, List.set_cons_succ, i64_w, i32_w]
          rfl
        refine one_ (i := 1) (N := some 102) #[true, true, false, false, false, false, false, false, false, false, false] rfl rfl (by kernel_rfl) (by decide) (fun K hK => ?_)
        refine goes_ Try.func70 (by kernel_rfl) rfl #[.slice oA acc.length oC] (by rfl) rfl rfl (by (try simp only [List.map_toArray, List.map_cons, List.map_nil]); first | done | rfl) ?_
        with_reducible refine (HCK.out _ (Below.refl _ W2).drew).mono ?_
        rintro e w6 ⟨rfl, hb⟩
        have HW6 : Hid (Below W2.heap.size W2 w6) := Lib.hid ((Below.refl _ W2).drew.trans (hb.mono (Nat.le_refl _)))
        have HB6 := Lib.hid (HBW.out.trans (HW6.out.mono HBW.out.size))
        clear hb
        refine ⟨_, rfl, ?_⟩
        refine hK.out _ _ (HSC.out _ HB6.out) (fun hHeld => ?_)
        clear hK K
        refine norm_ (a' := ?_) ?_ ?_
        rotate_left
        · show Act.put _ (some 102) _ = _
          simp only [Act.put, List.setIfInBounds_toArray, List.set_cons_zero, List.set_cons_succ, i64_w, i32_w]
          rfl
        refine pure_ (i := 2) (N := some 103) (v := ?_) (a' := ?_) #[true, true, true, false, false, false, false, false, false, false, false] rfl rfl (by kernel_rfl) (fun _ _ _ h => h) (Or.inl ⟨by rfl, ?_⟩) ?_ ?_
        rotate_left
        · intro w'
          go_simp
          with_reducible rfl
        rotate_left
        · simp only [Act.put, List.setIfInBounds_toArray, List.set_cons_zero, List.set_cons_succ, i64_w, i32_w]
          rfl
        refine pure_ (i := 3) (N := some 104) (v := ?_) (a' := ?_) #[true, true, true, true, false, false, false, false, false, false, false] rfl rfl (by kernel_rfl) (fun _ _ _ h => h) (Or.inl ⟨by rfl, ?_⟩) ?_ ?_
        rotate_left
        · intro w'
          go_simp
          with_reducible rfl
        rotate_left
        · simp only [Act.put, List.setIfInBounds_toArray, List.set_cons_zero, List.set_cons_succ, i64_w, i32_w]
          rfl
        refine pure_ (i := 4) (N := some 105) (v := undef) (a' := ?_) #[true, true, true, true, true, false, false, false, false, false, false] rfl rfl (by kernel_rfl) (fun _ _ _ h => h) (Or.inr ⟨by rfl, rfl⟩) ?_ ?_
        rotate_left
        · simp only [Act.put, List.setIfInBounds_toArray, List.set_cons_zero, List.set_cons_succ, i64_w, i32_w]
          rfl
        refine pure_ (i := 5) (N := some 106) (v := undef) (a' := ?_) #[true, true, true, true, true, true, false, false, false, false, false] rfl rfl (by kernel_rfl) (fun _ _ _ h => h) (Or.inr ⟨by rfl, rfl⟩) ?_ ?_
        rotate_left
        · simp only [Act.put, List.setIfInBounds_toArray, List.set_cons_zero, List.set_cons_succ, i64_w, i32_w]
          rfl
        refine pure_ (i := 6) (N := some 107) (v := undef) (a' := ?_) #[true, true, true, true, true, true, true, false, false, false, false] rfl rfl (by kernel_rfl) (fun _ _ _ h => h) (Or.inr ⟨by rfl, rfl⟩) ?_ ?_
        rotate_left
        · simp only [Act.put, List.setIfInBounds_toArray, List.set_cons_zero, List.set_cons_succ, i64_w, i32_w]
          rfl
        refine pure_ (i := 7) (N := some 108) (v := undef) (a' := ?_) #[true, true, true, true, true, true, true, true, false, false, false] rfl rfl (by kernel_rfl) (fun _ _ _ h => h) (Or.inr ⟨by rfl, rfl⟩) ?_ ?_
        rotate_left
        · simp only [Act.put, List.setIfInBounds_toArray, List.set_cons_zero, List.set_cons_succ, i64_w, i32_w]
          rfl
        refine pure_ (i := 8) (N := some 109) (v := undef) (a' := ?_) #[true, true, true, true, true, true, true, true, true, false, false] rfl rfl (by kernel_rfl) (fun _ _ _ h => h) (Or.inr ⟨by rfl, rfl⟩) ?_ ?_
        rotate_left
        · simp only [Act.put, List.setIfInBounds_toArray, List.set_cons_zero, List.set_cons_succ, i64_w, i32_w]
          rfl
        refine pure_ (i := 9) (N := some 110) (v := undef) (a' := ?_) #[true, true, true, true, true, true, true, true, true, true, false] rfl rfl (by kernel_rfl) (fun _ _ _ h => h) (Or.inr ⟨by rfl, rfl⟩) ?_ ?_
        rotate_left
        · simp only [Act.put, List.setIfInBounds_toArray, List.set_cons_zero, List.set_cons_succ, i64_w, i32_w]
          rfl
        refine pure_ (i := 10) (N := some 111) (v := ?_) (a' := ?_) #[true, true, true, true, true, true, true, true, true, true, true] rfl rfl (by kernel_rfl) (fun _ _ _ h => h) (Or.inl ⟨by rfl, ?_⟩) ?_ ?_
        rotate_left
        · intro w'
          go_simp
          with_reducible rfl
        rotate_left
        · simp only [Act.put, List.setIfInBounds_toArray, List.set_cons_zero, List.set_cons_succ, i64_w, i32_w]
          rfl
        refine done_ (by kernel_rfl) ?_
        go_wp2
        go_ret2
        exact ⟨.inl ⟨HNO.out, rfl⟩, HB6.out⟩
      case pos =>
        subst h0
        obtain ⟨en, hen⟩ : ∃ x, (Po.Enc acc).length = x := ⟨_, rfl⟩
        have hval := (Po.errF_zero acc).1 her
        have HEC : Hid (∀ W, Below W2.heap.size W2 W → Calls Try.prog 39 #[.slice oA acc.length oC] W fun e w' => ∃ A1 c1, e = .returned (.slice A1 en c1) ∧ Bs w' A1 en c1 (Po.Enc acc) ∧ Below W.heap.size W w') := Lib.hid (fun W hW => refenc_calls oA oC acc W (Kd.C_below hC hW) hval.2 hval.1 en hen.symm)
        obtain ⟨s1, hs1⟩ : ∃ s, strOfNums (Given.ints (Po.Enc acc)) = s := ⟨_, rfl⟩
        have HS1 := Lib.hid hs1
        have hse : (s1.toList == s2.toList) = decide (Po.Enc acc = b) := by
          rw [← hs1, ← hs2, Given.str_toList, Given.str_toList, Given.u8s_ints, Given.u8s_ints, Bool.eq_iff_iff, beq_iff_eq, decide_eq_true_eq]
        by_cases hE : Po.Enc acc = b
        · have HYE : Hid (Po.dec b = some acc) := Lib.hid (by rw [HDE2.out, Po.fin, if_pos ⟨HER.out, hE⟩])
          rw [decide_eq_true hE] at hse
          have hse2 : (s1.toList != s2.toList) = false := by rw [bne, hse]; rfl
          clear hE her hs1 hs2 hoc hC hval hen
          go_wp2
          refine start_ (n := 11) (S := fun w' => (convert 22 9 (.slice A n c)).run Try.prog w' = .ok (.string s2) w') (ds := []) #[false, false, false, false, false, false, false, false, false, false, false] (by kernel_rfl) rfl rfl (HSC.out _ HBW.out.drew) (fun hHeld => ?_)
          refine pure_ (i := 0) (N := some 101) (v := ?_) (a' := ?_) #[true, false, false, false, false, false, false, false, false, false, false] rfl rfl (by kernel_rfl) (fun _ _ _ h => h) (Or.inl ⟨by rfl, ?_⟩) ?_ ?_
          rotate_left
          · intro w'
            go_simp
            with_reducible rfl
          rotate_left
          · simp only [Act.put, List.setIfInBounds_toArray, List.set_cons_zero, List.set_cons_succ, i64_w, i32_w]
            rfl
          refine one_ (i := 1) (N := some 102) #[true, true, false, false, false, false, false, false, false, false, false] rfl rfl (by kernel_rfl) (by decide) (fun K hK => ?_)
          refine goes_ Try.func70 (by kernel_rfl) rfl #[.slice oA acc.length oC] (by rfl) rfl rfl (by (try simp only [List.map_toArray, List.map_cons, List.map_nil]); first | done | rfl) ?_
          with_reducible refine (HCK.out _ (Below.refl _ W2).drew).mono ?_
          rintro e w6 ⟨rfl, hb⟩
          have HW6 : Hid (Below W2.heap.size W2 w6) := Lib.hid ((Below.refl _ W2).drew.trans (hb.mono (Nat.le_refl _)))
          have HB6 := Lib.hid (HBW.out.trans (HW6.out.mono HBW.out.size))
          clear hb
          refine ⟨_, rfl, ?_⟩
          refine hK.out _ _ (HSC.out _ HB6.out) (fun hHeld => ?_)
          clear hK K
          refine norm_ (a' := ?_) ?_ ?_
          rotate_left
          · show Act.put _ (some 102) _ = _
            simp only [Act.put, List.setIfInBounds_toArray, List.set_cons_zero, List.set_cons_succ, i64_w, i32_w]
            rfl
          refine pure_ (i := 2) (N := some 103) (v := ?_) (a' := ?_) #[true, true, true, false, false, false, false, false, false, false, false] rfl rfl (by kernel_rfl) (fun _ _ _ h => h) (Or.inl ⟨by rfl, ?_⟩) ?_ ?_
          rotate_left
          · intro w'
            go_simp
            with_reducible rfl
          rotate_left
          · simp only [Act.put, List.setIfInBounds_toArray, List.set_cons_zero, List.set_cons_succ, i64_w, i32_w]
            rfl
          refine pure_ (i := 3) (N := some 104) (v := ?_) (a' := ?_) #[true, true, true, true, false, false, false, false, false, false, false] rfl rfl (by kernel_rfl) (fun _ _ _ h => h) (Or.inl ⟨by rfl, ?_⟩) ?_ ?_
          rotate_left
          · intro w'
            go_simp
            with_reducible rfl
          rotate_left
          · simp only [Act.put, List.setIfInBounds_toArray, List.set_cons_zero, List.set_cons_succ, i64_w, i32_w]
            rfl
          refine pure_ (i := 4) (N := some 105) (v := ?_) (a' := ?_) #[true, true, true, true, true, false, false, false, false, false, false] rfl rfl (by kernel_rfl) (fun _ _ _ h => h) (Or.inl ⟨by rfl, ?_⟩) ?_ ?_
          rotate_left
          · intro w'
            go_simp
            with_reducible rfl
          rotate_left
          · simp only [Act.put, List.setIfInBounds_toArray, List.set_cons_zero, List.set_cons_succ, i64_w, i32_w]
            rfl
          refine pure_ (i := 7) (N := some 108) (v := ?_) (a' := ?_) #[true, true, true, true, true, false, false, true, false, false, false] rfl rfl (by kernel_rfl) (fun _ _ _ h => h) (Or.inl ⟨by rfl, ?_⟩) ?_ ?_
          rotate_left
          · intro w'
            go_simp
            with_reducible rfl
          rotate_left
          · simp only [Act.put, List.setIfInBounds_toArray, List.set_cons_zero, List.set_cons_succ, i64_w, i32_w]
            rfl
          refine take_ (i := 8) (N := some 109) (v := ?_) (a' := ?_) #[true, true, true, true, true, false, false, true, true, false, false] rfl rfl (by kernel_rfl) (fun _ _ _ h => h) (Or.inl ⟨by rfl, ?_⟩) hHeld ?_ ?_
          rotate_left
          · rintro w' s0
            go_simp
            with_reducible rfl
          rotate_left
          · simp only [Act.put, List.setIfInBounds_toArray, List.set_cons_zero, List.set_cons_succ, i64_w, i32_w]
            rfl
          refine one_ (i := 5) (N := some 106) #[true, true, true, true, true, true, false, true, true, false, false] rfl rfl (by kernel_rfl) (by decide) (fun K hK => ?_)
          refine goes_ Try.func39 (by kernel_rfl) rfl #[.slice oA acc.length oC] (by rfl) rfl rfl (by (try simp only [List.map_toArray, List.map_cons, List.map_nil]); first | done | rfl) ?_
          with_reducible refine (HEC.out _ HW6.out).mono ?_
          rintro e w7 ⟨eA, ec, rfl, hE, hb⟩
          have HW7 := Lib.hid (HW6.out.trans (hb.mono HW6.out.size))
          have HB7 := Lib.hid (HB6.out.trans (hb.mono HB6.out.size))
          have q7 : (convert 22 9 (.slice eA en ec)).run Try.prog w7 = .ok (.string s1) w7 := HS1.out ▸ hE.txt.run
          clear hb hE
          refine ⟨_, rfl, ?_⟩
          refine hK.out _ _ (HSC.out _ HB7.out) (fun hHeld => ?_)
          clear hK K
          refine norm_ (a' := ?_) ?_ ?_
          rotate_left
          · show Act.put _ (some 106) _ = _
            simp only [Act.put, List.setIfInBounds_toArray, List.set_cons_zero, List.set_cons_succ, i64_w, i32_w]
            rfl
          refine one_ (i := 6) (N := some 107) #[true, true, true, true, true, true, true, true, true, false, false] rfl rfl (by kernel_rfl) (by decide) (fun K hK => ?_)
          refine value_ (w1 := ?_) (v := ?_) (by rfl) rfl ?_ ?_
          rotate_left 2
          · go_simp
            constructor
            · rfl
            · rfl
          refine hK.out _ _ hHeld (fun hHeld => ?_)
          clear hK K
          refine norm_ (a' := ?_) ?_ ?_
          rotate_left
          · show Act.put _ (some 107) _ = _
            simp only [Act.put, List.setIfInBounds_toArray, List.set_cons_zero, List.set_cons_succ, i64_w, i32_w]
            rfl
          refine pure_ (i := 9) (N := some 110) (v := ?_) (a' := ?_) #[true, true, true, true, true, true, true, true, true, true, false] rfl rfl (by kernel_rfl) (fun _ _ _ h => h) (Or.inl ⟨by rfl, ?_⟩) ?_ ?_
          rotate_left
          · intro w'
            go_simp
            with_reducible rfl
          rotate_left
          · simp only [Act.put, List.setIfInBounds_toArray, List.set_cons_zero, List.set_cons_succ, i64_w, i32_w]
            rfl
          refine pure_ (i := 10) (N := some 111) (v := ?_) (a' := ?_) #[true, true, true, true, true, true, true, true, true, true, true] rfl rfl (by kernel_rfl) (fun _ _ _ h => h) (Or.inl ⟨by rfl, ?_⟩) ?_ ?_
          rotate_left
          · intro w'
            go_simp
            with_reducible rfl
          rotate_left
          · simp only [Act.put, List.setIfInBounds_toArray, List.set_cons_zero, List.set_cons_succ, i64_w, i32_w]
            rfl
          refine done_ (by kernel_rfl) ?_
          go_wp2
          go_ret2
          exact ⟨.inr ⟨acc, oA, oC, HYE.out, rfl, HCC.out.1, Kd.C_below HCC.out.2 HW7.out⟩, HB7.out⟩
        · have HNO : Hid (Po.dec b = none) := Lib.hid (by rw [HDE2.out, Po.fin, if_neg (fun hh => hE hh.2)])
          rw [decide_eq_false hE] at hse
          have hse2 : (s1.toList != s2.toList) = true := by rw [bne, hse]; rfl
          clear hE her hs1 hs2 hoc hC hval hen
          go_wp2
          refine start_ (n := 11) (S := fun w' => (convert 22 9 (.slice A n c)).run Try.prog w' = .ok (.string s2) w') (ds := []) #[false, false, false, false, false, false, false, false, false, false, false] (by kernel_rfl) rfl rfl (HSC.out _ HBW.out.drew) (fun hHeld => ?_)
          refine pure_ (i := 0) (N := some 101) (v := ?_) (a' := ?_) #[true, false, false, false, false, false, false, false, false, false, false] rfl rfl (by kernel_rfl) (fun _ _ _ h => h) (Or.inl ⟨by rfl, ?_⟩) ?_ ?_
          rotate_left
          · intro w'
            go_simp
            with_reducible rfl
          rotate_left
          · simp only [Act.put, List.setIfInBounds_toArray, List.set_cons_zero, List.set_cons_succ, i64_w, i32_w]
            rfl
          refine one_ (i := 1) (N := some 102) #[true, true, false, false, false, false, false, false, false, false, false] rfl rfl (by kernel_rfl) (by decide) (fun K hK => ?_)
          refine goes_ Try.func70 (by kernel_rfl) rfl #[.slice oA acc.length oC] (by rfl) rfl rfl (by (try simp only [List.map_toArray, List.map_cons, List.map_nil]); first | done | rfl) ?_
          with_reducible refine (HCK.out _ (Below.refl _ W2).drew).mono ?_
          rintro e w6 ⟨rfl, hb⟩
          have HW6 : Hid (Below W2.heap.size W2 w6) := Lib.hid ((Below.refl _ W2).drew.trans (hb.mono (Nat.le_refl _)))
          have HB6 := Lib.hid (HBW.out.trans (HW6.out.mono HBW.out.size))
          clear hb
          refine ⟨_, rfl, ?_⟩
          refine hK.out _ _ (HSC.out _ HB6.out) (fun hHeld => ?_)
          clear hK K
          refine norm_ (a' := ?_) ?_ ?_
          rotate_left
          · show Act.put _ (some 102) _ = _
            simp only [Act.put, List.setIfInBounds_toArray, List.set_cons_zero, List.set_cons_succ, i64_w, i32_w]
            rfl
          refine pure_ (i := 2) (N := some 103) (v := ?_) (a' := ?_) #[true, true, true, false, false, false, false, false, false, false, false] rfl rfl (by kernel_rfl) (fun _ _ _ h => h) (Or.inl ⟨by rfl, ?_⟩) ?_ ?_
          rotate_left
          · intro w'
            go_simp
            with_reducible rfl
          rotate_left
          · simp only [Act.put, List.setIfInBounds_toArray, List.set_cons_zero, List.set_cons_succ, i64_w, i32_w]
            rfl
          refine pure_ (i := 3) (N := some 104) (v := ?_) (a' := ?_) #[true, true, true, true, false, false, false, false, false, false, false] rfl rfl (by kernel_rfl) (fun _ _ _ h => h) (Or.inl ⟨by rfl, ?_⟩) ?_ ?_
          rotate_left
          · intro w'
            go_simp
            with_reducible rfl
          rotate_left
          · simp only [Act.put, List.setIfInBounds_toArray, List.set_cons_zero, List.set_cons_succ, i64_w, i32_w]
            rfl
          refine pure_ (i := 4) (N := some 105) (v := ?_) (a' := ?_) #[true, true, true, true, true, false, false, false, false, false, false] rfl rfl (by kernel_rfl) (fun _ _ _ h => h) (Or.inl ⟨by rfl, ?_⟩) ?_ ?_
          rotate_left
          · intro w'
            go_simp
            with_reducible rfl
          rotate_left
          · simp only [Act.put, List.setIfInBounds_toArray, List.set_cons_zero, List.set_cons_succ, i64_w, i32_w]
            rfl
          refine pure_ (i := 7) (N := some 108) (v := ?_) (a' := ?_) #[true, true, true, true, true, false, false, true, false, false, false] rfl rfl (by kernel_rfl) (fun _ _ _ h => h) (Or.inl ⟨by rfl, ?_⟩) ?_ ?_
          rotate_left
          · intro w'
            go_simp
            with_reducible rfl
          rotate_left
          · simp only [Act.put, List.setIfInBounds_toArray, List.set_cons_zero, List.set_cons_succ, i64_w, i32_w]
            rfl
          refine take_ (i := 8) (N := some 109) (v := ?_) (a' := ?_) #[true, true, true, true, true, false, false, true, true, false, false] rfl rfl (by kernel_rfl) (fun _ _ _ h => h) (Or.inl ⟨by rfl, ?_⟩) hHeld ?_ ?_
          rotate_left
          · rintro w' s0
            go_simp
            with_reducible rfl
          rotate_left
          · simp only [Act.put, List.setIfInBounds_toArray, List.set_cons_zero, List.set_cons_succ, i64_w, i32_w]
            rfl
          refine one_ (i := 5) (N := some 106) #[true, true, true, true, true, true, false, true, true, false, false] rfl rfl (by kernel_rfl) (by decide) (fun K hK => ?_)
          refine goes_ Try.func39 (by kernel_rfl) rfl #[.slice oA acc.length oC] (by rfl) rfl rfl (by (try simp only [List.map_toArray, List.map_cons, List.map_nil]); first | done | rfl) ?_
          with_reducible refine (HEC.out _ HW6.out).mono ?_
          rintro e w7 ⟨eA, ec, rfl, hE, hb⟩
          have HW7 := Lib.hid (HW6.out.trans (hb.mono HW6.out.size))
          have HB7 := Lib.hid (HB6.out.trans (hb.mono HB6.out.size))
          have q7 : (convert 22 9 (.slice eA en ec)).run Try.prog w7 = .ok (.string s1) w7 := HS1.out ▸ hE.txt.run
          clear hb hE
          refine ⟨_, rfl, ?_⟩
          refine hK.out _ _ (HSC.out _ HB7.out) (fun hHeld => ?_)
          clear hK K
          refine norm_ (a' := ?_) ?_ ?_
          rotate_left
          · show Act.put _ (some 106) _ = _
            simp only [Act.put, List.setIfInBounds_toArray, List.set_cons_zero, List.set_cons_succ, i64_w, i32_w]
            rfl
          refine one_ (i := 6) (N := some 107) #[true, true, true, true, true, true, true, true, true, false, false] rfl rfl (by kernel_rfl) (by decide) (fun K hK => ?_)
          refine value_ (w1 := ?_) (v := ?_) (by rfl) rfl ?_ ?_
          rotate_left 2
          · go_simp
            constructor
            · rfl
            · rfl
          refine hK.out _ _ hHeld (fun hHeld => ?_)
          clear hK K
          refine norm_ (a' := ?_) ?_ ?_
          rotate_left
          · show Act.put _ (some 107) _ = _
            simp only [Act.put, List.setIfInBounds_toArray, List.set_cons_zero, List.set_cons_succ, i64_w, i32_w]
            rfl
          refine pure_ (i := 9) (N := some 110) (v := ?_) (a' := ?_) #[true, true, true, true, true, true, true, true, true, true, false] rfl rfl (by kernel_rfl) (fun _ _ _ h => h) (Or.inl ⟨by rfl, ?_⟩) ?_ ?_
          rotate_left
          · intro w'
            go_simp
            with_reducible rfl
          rotate_left
          · simp only [Act.put, List.setIfInBounds_toArray, List.set_cons_zero, List.set_cons_succ, i64_w, i32_w]
            rfl
          refine pure_ (i := 10) (N := some 111) (v := ?_) (a' := ?_) #[true, true, true, true, true, true, true, true, true, true, true] rfl rfl (by kernel_rfl) (fun _ _ _ h => h) (Or.inl ⟨by rfl, ?_⟩) ?_ ?_
          rotate_left
          · intro w'
            go_simp
            with_reducible rfl
          rotate_left
          · simp only [Act.put, List.setIfInBounds_toArray, List.set_cons_zero, List.set_cons_succ, i64_w, i32_w]
            rfl
          refine done_ (by kernel_rfl) ?_
          go_wp2
          go_ret2
          exact ⟨.inl ⟨HNO.out, rfl⟩, HB7.out⟩

theorem refdec_calls (A : Option Addr) (n c : Nat) (b : List UInt8) (w : World) (h : Bs w A n c b) (hn : n < 100000) :
    Calls Try.prog 44 #[.slice A n c] w fun e w' => DecR w b e w' := by
  have HA : Hid (∀ W, Below w.heap.size w W → Bs W A n c b) := Lib.hid (fun W hW => h.below hW)
  have HUN : ∀ p, Po.Opens b → b.take (b.length - 4) = p → Hid (Calls Try.prog 33 #[.slice A n c] w fun e w' => ∃ A1 c1, e = .returned (.tuple #[.slice A1 p.length c1, .bool true]) ∧ Bs w' A1 p.length c1 p ∧ Below w.heap.size w w') := fun p ho hp => Lib.hid (by
    have hl : p.length = n - 4 := by rw [← hp, List.length_take, h.len]; omega
    have h1 := rUn_any h (by omega) ho.1 p.length hl true (decide_eq_true ho)
    rwa [hp] at h1)
  have HUV : ∀ (p : List UInt8) (x k : Nat) (e : Int), p.length < 1000000000 → Po.tkU p 0 0 = (x, k, e) → Hid (∀ W A c, Bs W A p.length c p → Calls Try.prog 81 #[.slice A p.length c] W fun e' w' => e' = .returned (.tuple #[.int .u64 (x : Nat), .int .i64 (k : Nat), .int .i64 e]) ∧ Below W.heap.size W w') := fun p x k e hl ht => Lib.hid (fun W A c hB => tkB_calls hB hl x k e ht)
  have hbl := h.len
  have hpl : ∀ p : List UInt8, b.take (b.length - 4) = p → p.length < 100000 := fun p hp => by rw [← hp, List.length_take]; omega
  have key : ∀ (p q : List UInt8) (x1 k1 x2 k2 : Nat), Po.Opens b → b.take (b.length - 4) = p → Po.tkU p 0 0 = (x1, k1, 0) → x1 ≤ 4096 → p.drop k1 = q → Po.tkU q 0 0 = (x2, k2, 0) → Calls Try.prog 44 #[.slice A n c] w fun e w' => DecR w b e w' := fun p q x1 k1 x2 k2 ho hp h1 hx1 hq h2 => by
    have hp5 := hpl p hp
    have hk1 := tk_le h1
    have hk2 := tk_le h2
    have hql : q.length = p.length - k1 := by rw [← hq, List.length_drop]
    have hK1 : Hid (k1 ≤ p.length ∧ q.length = p.length - k1 ∧ q = p.drop k1) := Lib.hid ⟨hk1, hql, hq.symm⟩
    have H1 := HUV p x1 k1 0 (by omega) h1
    have H2 := HUV q x2 k2 0 (by omega) h2
    have HU := HUN p ho hp
    obtain ⟨r, hr⟩ : ∃ r, q.drop k2 = r := ⟨_, rfl⟩
    have hrl : r.length = q.length - k2 := by rw [← hr, List.length_drop]
    have hK2 : Hid (k1 + k2 ≤ p.length ∧ r.length = p.length - (k1 + k2) ∧ r = p.drop (k1 + k2)) := Lib.hid ⟨by omega, by omega, by rw [← hr, ← hq, List.drop_drop]⟩
    by_cases hx : 8 * r.length < x2
    · have hD := dec_two ho hp h1 hx1 hq h2 (.inr (by rw [hr]; exact hx))
      by_cases hm : 1048576 < x2
      · exact (rc_uv2x A n c w p.length x1 k1 q.length x2 k2 p q HU H1 hK1 H2 hx1 hm).mono fun e w' hq => DecR.bad hD hq
      · exact (rc_uv2y A n c w p.length x1 k1 q.length x2 k2 p q HU H1 hK1 H2 (k1 + k2) r.length r hK2 rfl hk2 hx1 hp5 (by omega) hx).mono fun e w' hq => DecR.bad hD hq
    · have hD := dec_all ho hp h1 hx1 hq h2 hr (by omega)
      refine rc_loop A n c w p.length x1 k1 q.length x2 k2 p q HU H1 hK1 H2 (k1 + k2) r.length r hK2 rfl hk2 hx1 hp5 (by omega) b (Po.unpack r x2) (Lib.hid fun W A c hB => ?_) HA (Po.unpack_len _ _) (by omega) (Lib.hid hD)
      exact unpackO_calls hB (by omega) x2 (by omega)
  rcases way b with ho | ⟨ho, p, hp, x1, k1, e1, h1, hb⟩ | ⟨ho, p, q, hp, x1, k1, x2, k2, e2, h1, hx1, hq, h2, hb⟩ | ⟨ho, p, q, r, hp, x1, k1, x2, k2, h1, hx1, hq, h2, hx2, hr⟩
  · exact (rc_shut A n c w (Lib.hid (rUn_shut h (by omega) ho))).mono fun e w' hq => DecR.bad (Po.dec_shut ho) hq
  · have hD := dec_one ho hp h1 hb
    have hp5 := hpl p hp
    by_cases h0 : e1 = 0
    · subst h0
      exact (rc_uv1x A n c w p.length x1 k1 p (HUN p ho hp) (HUV p x1 k1 0 (by omega) h1) (by omega)).mono fun e w' hq => DecR.bad hD hq
    · exact (rc_uv1e A n c w p.length x1 k1 e1 p (HUN p ho hp) (HUV p x1 k1 e1 (by omega) h1) h0).mono fun e w' hq => DecR.bad hD hq
  · by_cases h0 : e2 = 0
    · subst h0
      exact key p q x1 k1 x2 k2 ho hp h1 hx1 hq h2
    · have hp5 := hpl p hp
      have hk1 := tk_le h1
      have hql : q.length = p.length - k1 := by rw [← hq, List.length_drop]
      have hK1 : Hid (k1 ≤ p.length ∧ q.length = p.length - k1 ∧ q = p.drop k1) := Lib.hid ⟨hk1, hql, hq.symm⟩
      have hD := dec_two ho hp h1 hx1 hq h2 (.inl h0)
      exact (rc_uv2e A n c w p.length x1 k1 q.length x2 k2 p q (HUN p ho hp) (HUV p x1 k1 0 (by omega) h1) hK1 e2 (HUV q x2 k2 e2 (by omega) h2) hx1 h0).mono fun e w' hq => DecR.bad hD hq
  · exact key p q x1 k1 x2 k2 ho hp h1 hx1 hq h2
end Go.Proofs.Ytmeojlamadcedaa

namespace Go.Proofs.Ytmeojlamadcedaa
set_option linter.unusedSimpArgs false
set_option linter.unusedVariables false
open Go.RowKit Go.Sort Go.Proofs.YtmeojlamadcedaaW.PrintWords Go.Proofs.YtmeojlamadcedaaW.PrintLast Go.Proofs.YtmeojlamadcedaaW.PrintMore

theorem decodes_over (A0 : Option Addr) (n c0 : Nat) (w : World) (h : 600 < n) :
    Calls Try.prog 12 #[.slice A0 n c0] w fun e w' => e = .returned (.bool true) ∧ Below w.heap.size w w' := by
  have hz : decide ((600 : Int) < (n : Int)) = true := by simp; omega
  go_enter Try.func12, Try.ntmps12
  go_wp2
  go_ret
  exact ⟨rfl, Below.refl _ _⟩
set_option maxHeartbeats 2000000 in
set_option maxRecDepth 100000 in
theorem decodes_in (A0 : Option Addr) (n c0 : Nat) (b : List UInt8) (w : World) (h : Bs w A0 n c0 b) (hn : n ≤ 600) :
    Calls Try.prog 12 #[.slice A0 n c0] w fun e w' => e = .returned (.bool true) ∧ Below w.heap.size w w' := by
  have hz : decide ((600 : Int) < (n : Int)) = false := by simp; omega
  have HDC := Lib.hid (decode_calls A0 n c0 b w h (by omega))
  have HRC : Hid (∀ W, Below w.heap.size w W → Calls Try.prog 44 #[.slice A0 n c0] W fun e w' => DecR W b e w') := Lib.hid (fun W hW => refdec_calls A0 n c0 b W (h.below hW) (by omega))
  have HA : Hid (∀ W, Below w.heap.size w W → Bs W A0 n c0 b) := Lib.hid (fun W hW => h.below hW)
  have HNB := Lib.hid h.len
  clear h hn
  rcases hd : Po.dec b with _ | l
  · have HD0 : Hid (Calls Try.prog 38 #[.slice A0 n c0] w fun e w' => e = .returned (.tuple #[.pointer none, .int .i64 9]) ∧ Below w.heap.size w w') := Lib.hid (by
      refine HDC.out.mono fun e w' hq => ?_
      obtain ⟨h1, h2⟩ := hq
      rcases h1 with ⟨_, he⟩ | ⟨l, a, gv, sv, hs, _⟩
      · exact ⟨he, h2⟩
      · rw [hd] at hs; cases hs)
    have HR0 : Hid (∀ W, Below w.heap.size w W → Calls Try.prog 44 #[.slice A0 n c0] W fun e w' => e = .returned (.tuple #[.slice none 0 0, .bool false]) ∧ Below W.heap.size W w') := Lib.hid (fun W hW => by
      refine (HRC.out W hW).mono fun e w' hq => ?_
      obtain ⟨h1, h2⟩ := hq
      rcases h1 with ⟨_, he⟩ | ⟨l, A1, c1, hs, _⟩
      · exact ⟨he, h2⟩
      · rw [hd] at hs; cases hs)
    clear HDC HRC HA HNB hd
    go_enter Try.func12, Try.ntmps12
    go_wp2_with (first
      | (go_at_call 38; (with_reducible refine HD0.out.mono ?_); rintro e w1 ⟨rfl, hb⟩; have HB1 := Lib.hid hb; clear hb)
      | (go_at_call 44; (with_reducible refine (HR0.out _ HB1.out).mono ?_); rintro e w2 ⟨rfl, hb⟩; have HB2 := Lib.hid (HB1.out.trans (hb.mono HB1.out.size)); clear hb)
      | (go_at_call 36; (with_reducible refine (awake17_true _).mono ?_); rintro e w3 ⟨rfl, hb⟩; have HB3 := Lib.hid (HB2.out.trans (hb.mono HB2.out.size)); clear hb))
    go_ret
    exact ⟨rfl, HB3.out⟩
  · have hse := Po.dec_some hd
    have HD1 : Hid (Calls Try.prog 38 #[.slice A0 n c0] w fun e w' => ∃ a gv sv, e = .returned (.tuple #[.pointer (some ⟨a, 0, none⟩), .int .i64 0]) ∧ IsList w.heap.size w' a gv sv l ∧ Below w.heap.size w w') := Lib.hid (by
      refine HDC.out.mono fun e w' hq => ?_
      obtain ⟨h1, h2⟩ := hq
      rcases h1 with ⟨hs, _⟩ | ⟨l1, a, gv, sv, hs, he, hl⟩
      · rw [hd] at hs; cases hs
      · rw [hd] at hs
        obtain rfl := Option.some.inj hs
        exact ⟨a, gv, sv, he, hl, h2⟩)
    have HR1 : Hid (∀ W, Below w.heap.size w W → Calls Try.prog 44 #[.slice A0 n c0] W fun e w' => ∃ A1 c1, e = .returned (.tuple #[.slice A1 l.length c1, .bool true]) ∧ Kd.C (Kd.int .i64) w' A1 l.length l ∧ Below W.heap.size W w') := Lib.hid (fun W hW => by
      refine (HRC.out W hW).mono fun e w' hq => ?_
      obtain ⟨h1, h2⟩ := hq
      rcases h1 with ⟨hs, _⟩ | ⟨l1, A1, c1, hs, he, _, hC⟩
      · rw [hd] at hs; cases hs
      · rw [hd] at hs
        obtain rfl := Option.some.inj hs
        exact ⟨A1, c1, he, hC, h2⟩)
    have HLEN : Hid (l.length ≤ 1000000) := Lib.hid (by have := ((Po.errF_zero l).1 hse.1).1; omega)
    have HAL : Hid (∀ {B la gv sv} W, IsList B W la gv sv l → Calls Try.prog 42 #[.pointer (some ⟨la, 0, none⟩)] W fun e w' => ∃ v, e = .returned v ∧ w'.ownsRow W.heap.size 3 1 v l.length (nums .i64 l) ∧ Below W.heap.size W w') := Lib.hid (fun W hL => all_calls _ _ _ _ l W hL)
    have HEN : Hid (∀ {B la gv sv} W, IsList B W la gv sv l → Calls Try.prog 37 #[.pointer (some ⟨la, 0, none⟩)] W fun e w' => ∃ A c, e = .returned (.slice A n c) ∧ Bs w' A n c b ∧ Below W.heap.size W w') := Lib.hid (fun W hL => by
      have h1 := enB_calls hL n (by rw [hse.2]; exact HNB.out)
      rw [hse.2] at h1
      exact h1)
    obtain ⟨s1, hs1⟩ : ∃ s, strOfNums (Given.ints b) = s := ⟨_, rfl⟩
    have HS1 := Lib.hid hs1
    have HSC : Hid (∀ W, Below w.heap.size w W → (convert 22 9 (.slice A0 n c0)).run Try.prog W = .ok (.string s1) W) := Lib.hid (fun W hW => by rw [← hs1]; exact (HA.out W hW).txt.run)
    clear HDC HRC HA HNB hd hse hs1
    go_enter Try.func12, Try.ntmps12
    go_wp2_with (first
      | (go_at_call 38; (with_reducible refine HD1.out.mono ?_); rintro e w1 ⟨la, gv, sv, rfl, hl, hb⟩; have HB1 := Lib.hid hb; have HL1 := Lib.hid hl; clear hb hl)
      | (go_at_call 44; (with_reducible refine (HR1.out _ HB1.out).mono ?_); rintro e w2 ⟨B0, d0, rfl, hC, hb⟩; have HB2 := Lib.hid (HB1.out.trans (hb.mono HB1.out.size)); have HL2 := Lib.hid (HL1.out.later hb); have HC2 := Lib.hid hC; clear hb hC))
    have HRB : Hid (∀ W, Below w2.heap.size w2 W → ReadsInt W .i64 B0 l.length l) := Lib.hid (fun W hW => Kd.reads_of_C (enc := Value.int .i64) (d := (0 : Int)) (h1 := fun _ => rfl) (Kd.C_below HC2.out hW))
    refine start_ (n := 24) (S := fun w' => (convert 22 9 (.slice A0 n c0)).run Try.prog w' = .ok (.string s1) w') (ds := []) #[false, false, false, false, false, false, false, false, false, false, false, false, false, false, false, false, false, false, false, false, false, false, false, false] (by kernel_rfl) rfl rfl (HSC.out _ HB2.out.drew) (fun hHeld => ?_)
    refine pure_ (i := 0) (N := some 31) (v := ?_) (a' := ?_) #[true, false, false, false, false, false, false, false, false, false, false, false, false, false, false, false, false, false, false, false, false, false, false, false] rfl rfl (by kernel_rfl) (fun _ _ _ h => h) (Or.inl ⟨by rfl, ?_⟩) ?_ ?_
    rotate_left
    · intro w'
      go_simp
      with_reducible rfl
    rotate_left
    · simp only [Act.put, List.setIfInBounds_toArray, List.set_cons_zero, List.set_cons_succ, i64_w, i32_w]
      rfl
    refine pure_ (i := 1) (N := some 32) (v := ?_) (a' := ?_) #[true, true, false, false, false, false, false, false, false, false, false, false, false, false, false, false, false, false, false, false, false, false, false, false] rfl rfl (by kernel_rfl) (fun _ _ _ h => h) (Or.inl ⟨by rfl, ?_⟩) ?_ ?_
    rotate_left
    · intro w'
      go_simp
      with_reducible rfl
    rotate_left
    · simp only [Act.put, List.setIfInBounds_toArray, List.set_cons_zero, List.set_cons_succ, i64_w, i32_w]
      rfl
    refine pure_ (i := 2) (N := some 33) (v := ?_) (a' := ?_) #[true, true, true, false, false, false, false, false, false, false, false, false, false, false, false, false, false, false, false, false, false, false, false, false] rfl rfl (by kernel_rfl) (fun _ _ _ h => h) (Or.inl ⟨by rfl, ?_⟩) ?_ ?_
    rotate_left
    · intro w'
      go_simp
      with_reducible rfl
    rotate_left
    · simp only [Act.put, List.setIfInBounds_toArray, List.set_cons_zero, List.set_cons_succ, i64_w, i32_w]
      rfl
    refine pure_ (i := 3) (N := some 34) (v := ?_) (a' := ?_) #[true, true, true, true, false, false, false, false, false, false, false, false, false, false, false, false, false, false, false, false, false, false, false, false] rfl rfl (by kernel_rfl) (fun _ _ _ h => h) (Or.inl ⟨by rfl, ?_⟩) ?_ ?_
    rotate_left
    · intro w'
      go_simp
      with_reducible rfl
    rotate_left
    · simp only [Act.put, List.setIfInBounds_toArray, List.set_cons_zero, List.set_cons_succ, i64_w, i32_w]
      rfl
    refine pure_ (i := 4) (N := some 35) (v := ?_) (a' := ?_) #[true, true, true, true, true, false, false, false, false, false, false, false, false, false, false, false, false, false, false, false, false, false, false, false] rfl rfl (by kernel_rfl) (fun _ _ _ h => h) (Or.inl ⟨by rfl, ?_⟩) ?_ ?_
    rotate_left
    · intro w'
      go_simp
      with_reducible rfl
    rotate_left
    · simp only [Act.put, List.setIfInBounds_toArray, List.set_cons_zero, List.set_cons_succ, i64_w, i32_w]
      rfl
    refine pure_ (i := 5) (N := some 36) (v := ?_) (a' := ?_) #[true, true, true, true, true, true, false, false, false, false, false, false, false, false, false, false, false, false, false, false, false, false, false, false] rfl rfl (by kernel_rfl) (fun _ _ _ h => h) (Or.inl ⟨by rfl, ?_⟩) ?_ ?_
    rotate_left
    · intro w'
      go_simp
      with_reducible rfl
    rotate_left
    · simp only [Act.put, List.setIfInBounds_toArray, List.set_cons_zero, List.set_cons_succ, i64_w, i32_w]
      rfl
    refine pure_ (i := 6) (N := some 37) (v := ?_) (a' := ?_) #[true, true, true, true, true, true, true, false, false, false, false, false, false, false, false, false, false, false, false, false, false, false, false, false] rfl rfl (by kernel_rfl) (fun _ _ _ h => h) (Or.inl ⟨by rfl, ?_⟩) ?_ ?_
    rotate_left
    · intro w'
      go_simp
      with_reducible rfl
    rotate_left
    · simp only [Act.put, List.setIfInBounds_toArray, List.set_cons_zero, List.set_cons_succ, i64_w, i32_w]
      rfl
    refine pure_ (i := 7) (N := some 38) (v := ?_) (a' := ?_) #[true, true, true, true, true, true, true, true, false, false, false, false, false, false, false, false, false, false, false, false, false, false, false, false] rfl rfl (by kernel_rfl) (fun _ _ _ h => h) (Or.inl ⟨by rfl, ?_⟩) ?_ ?_
    rotate_left
    · intro w'
      go_simp
      with_reducible rfl
    rotate_left
    · simp only [Act.put, List.setIfInBounds_toArray, List.set_cons_zero, List.set_cons_succ, i64_w, i32_w]
      rfl
    refine pure_ (i := 9) (N := some 40) (v := ?_) (a' := ?_) #[true, true, true, true, true, true, true, true, false, true, false, false, false, false, false, false, false, false, false, false, false, false, false, false] rfl rfl (by kernel_rfl) (fun _ _ _ h => h) (Or.inl ⟨by rfl, ?_⟩) ?_ ?_
    rotate_left
    · intro w'
      go_simp
      with_reducible rfl
    rotate_left
    · simp only [Act.put, List.setIfInBounds_toArray, List.set_cons_zero, List.set_cons_succ, i64_w, i32_w]
      rfl
    refine one_ (i := 8) (N := some 39) #[true, true, true, true, true, true, true, true, true, true, false, false, false, false, false, false, false, false, false, false, false, false, false, false] rfl rfl (by kernel_rfl) (by decide) (fun K hK => ?_)
    refine goes_ Try.func42 (by kernel_rfl) rfl #[.pointer (some ⟨la, 0, none⟩)] (by rfl) rfl rfl (by (try simp only [List.map_toArray, List.map_cons, List.map_nil]); first | done | rfl) ?_
    with_reducible refine (HAL.out _ (HL2.out.later (Below.refl _ w2).drew)).mono ?_
    rintro e w3 ⟨v3, rfl, ho, hb⟩
    obtain ⟨vA, vC, rfl⟩ := own_slice ho
    have HB3 := Lib.hid (HB2.out.drew.trans (hb.mono HB2.out.drew.size))
    have HW3 : Hid (Below w2.heap.size w2 w3) := Lib.hid ((Below.refl _ w2).drew.trans (hb.mono (Nat.le_refl _)))
    have HR3 := Lib.hid (own_readsI ho)
    have HL3 := Lib.hid (HL2.out.later HW3.out)
    have HSA := Lib.hid (same_calls vA B0 vC d0 l w3 HR3.out (HRB.out _ HW3.out) HLEN.out)
    clear ho hb
    refine ⟨_, rfl, ?_⟩
    refine hK.out _ _ (HSC.out _ HB3.out) (fun hHeld => ?_)
    clear hK K
    refine norm_ (a' := ?_) ?_ ?_
    rotate_left
    · show Act.put _ (some 39) _ = _
      simp only [Act.put, List.setIfInBounds_toArray, List.set_cons_zero, List.set_cons_succ, i64_w, i32_w]
      rfl
    refine one_ (i := 10) (N := some 41) #[true, true, true, true, true, true, true, true, true, true, true, false, false, false, false, false, false, false, false, false, false, false, false, false] rfl rfl (by kernel_rfl) (by decide) (fun K hK => ?_)
    refine goes_ Try.func41 (by kernel_rfl) rfl #[.slice vA l.length vC, .slice B0 l.length d0] (by rfl) rfl rfl (by (try simp only [List.map_toArray, List.map_cons, List.map_nil]); first | done | rfl) ?_
    with_reducible refine (HSA.out).mono ?_
    rintro e w4 ⟨rfl, q4, hw4⟩
    have hb4 : Below w3.heap.size w3 w4 := (by rw [hw4]; exact below_drewN (Below.refl _ _) q4)
    have HB4 := Lib.hid (HB3.out.trans (hb4.mono HB3.out.size))
    have HL4 := Lib.hid (HL3.out.later hb4)
    clear hw4 hb4
    refine ⟨_, rfl, ?_⟩
    refine hK.out _ _ (HSC.out _ HB4.out) (fun hHeld => ?_)
    clear hK K
    refine norm_ (a' := ?_) ?_ ?_
    rotate_left
    · show Act.put _ (some 41) _ = _
      simp only [Act.put, List.setIfInBounds_toArray, List.set_cons_zero, List.set_cons_succ, i64_w, i32_w]
      rfl
    refine pure_ (i := 11) (N := some 42) (v := ?_) (a' := ?_) #[true, true, true, true, true, true, true, true, true, true, true, true, false, false, false, false, false, false, false, false, false, false, false, false] rfl rfl (by kernel_rfl) (fun _ _ _ h => h) (Or.inl ⟨by rfl, ?_⟩) ?_ ?_
    rotate_left
    · intro w'
      go_simp
      with_reducible rfl
    rotate_left
    · simp only [Act.put, List.setIfInBounds_toArray, List.set_cons_zero, List.set_cons_succ, i64_w, i32_w]
      rfl
    refine pure_ (i := 12) (N := some 43) (v := ?_) (a' := ?_) #[true, true, true, true, true, true, true, true, true, true, true, true, true, false, false, false, false, false, false, false, false, false, false, false] rfl rfl (by kernel_rfl) (fun _ _ _ h => h) (Or.inl ⟨by rfl, ?_⟩) ?_ ?_
    rotate_left
    · intro w'
      go_simp
      with_reducible rfl
    rotate_left
    · simp only [Act.put, List.setIfInBounds_toArray, List.set_cons_zero, List.set_cons_succ, i64_w, i32_w]
      rfl
    refine pure_ (i := 13) (N := some 44) (v := ?_) (a' := ?_) #[true, true, true, true, true, true, true, true, true, true, true, true, true, true, false, false, false, false, false, false, false, false, false, false] rfl rfl (by kernel_rfl) (fun _ _ _ h => h) (Or.inl ⟨by rfl, ?_⟩) ?_ ?_
    rotate_left
    · intro w'
      go_simp
      with_reducible rfl
    rotate_left
    · simp only [Act.put, List.setIfInBounds_toArray, List.set_cons_zero, List.set_cons_succ, i64_w, i32_w]
      rfl
    refine pure_ (i := 16) (N := some 47) (v := ?_) (a' := ?_) #[true, true, true, true, true, true, true, true, true, true, true, true, true, true, false, false, true, false, false, false, false, false, false, false] rfl rfl (by kernel_rfl) (fun _ _ _ h => h) (Or.inl ⟨by rfl, ?_⟩) ?_ ?_
    rotate_left
    · intro w'
      go_simp
      with_reducible rfl
    rotate_left
    · simp only [Act.put, List.setIfInBounds_toArray, List.set_cons_zero, List.set_cons_succ, i64_w, i32_w]
      rfl
    refine take_ (i := 17) (N := some 48) (v := ?_) (a' := ?_) #[true, true, true, true, true, true, true, true, true, true, true, true, true, true, false, false, true, true, false, false, false, false, false, false] rfl rfl (by kernel_rfl) (fun _ _ _ h => h) (Or.inl ⟨by rfl, ?_⟩) hHeld ?_ ?_
    rotate_left
    · rintro w' s0
      go_simp
      with_reducible rfl
    rotate_left
    · simp only [Act.put, List.setIfInBounds_toArray, List.set_cons_zero, List.set_cons_succ, i64_w, i32_w]
      rfl
    refine one_ (i := 14) (N := some 45) #[true, true, true, true, true, true, true, true, true, true, true, true, true, true, true, false, true, true, false, false, false, false, false, false] rfl rfl (by kernel_rfl) (by decide) (fun K hK => ?_)
    refine goes_ Try.func37 (by kernel_rfl) rfl #[.pointer (some ⟨la, 0, none⟩)] (by rfl) rfl rfl (by (try simp only [List.map_toArray, List.map_cons, List.map_nil]); first | done | rfl) ?_
    with_reducible refine (HEN.out _ HL4.out).mono ?_
    rintro e w5 ⟨eA, ec, rfl, hE, hb⟩
    have HB5 := Lib.hid (HB4.out.trans (hb.mono HB4.out.size))
    have q5 : (convert 22 9 (.slice eA n ec)).run Try.prog w5 = .ok (.string s1) w5 := HS1.out ▸ hE.txt.run
    clear hb hE
    refine ⟨_, rfl, ?_⟩
    refine hK.out _ _ (HSC.out _ HB5.out) (fun hHeld => ?_)
    clear hK K
    refine norm_ (a' := ?_) ?_ ?_
    rotate_left
    · show Act.put _ (some 45) _ = _
      simp only [Act.put, List.setIfInBounds_toArray, List.set_cons_zero, List.set_cons_succ, i64_w, i32_w]
      rfl
    refine one_ (i := 15) (N := some 46) #[true, true, true, true, true, true, true, true, true, true, true, true, true, true, true, true, true, true, false, false, false, false, false, false] rfl rfl (by kernel_rfl) (by decide) (fun K hK => ?_)
    refine value_ (w1 := ?_) (v := ?_) (by rfl) rfl ?_ ?_
    rotate_left 2
    · go_simp
      constructor
      · rfl
      · rfl
    refine hK.out _ _ hHeld (fun hHeld => ?_)
    clear hK K
    refine norm_ (a' := ?_) ?_ ?_
    rotate_left
    · show Act.put _ (some 46) _ = _
      simp only [Act.put, List.setIfInBounds_toArray, List.set_cons_zero, List.set_cons_succ, i64_w, i32_w]
      rfl
    refine pure_ (i := 18) (N := some 49) (v := ?_) (a' := ?_) #[true, true, true, true, true, true, true, true, true, true, true, true, true, true, true, true, true, true, true, false, false, false, false, false] rfl rfl (by kernel_rfl) (fun _ _ _ h => h) (Or.inl ⟨by rfl, ?_⟩) ?_ ?_
    rotate_left
    · intro w'
      go_simp
      with_reducible rfl
    rotate_left
    · simp only [Act.put, List.setIfInBounds_toArray, List.set_cons_zero, List.set_cons_succ, i64_w, i32_w]
      rfl
    refine pure_ (i := 19) (N := some 50) (v := ?_) (a' := ?_) #[true, true, true, true, true, true, true, true, true, true, true, true, true, true, true, true, true, true, true, true, false, false, false, false] rfl rfl (by kernel_rfl) (fun _ _ _ h => h) (Or.inl ⟨by rfl, ?_⟩) ?_ ?_
    rotate_left
    · intro w'
      go_simp
      with_reducible rfl
    rotate_left
    · simp only [Act.put, List.setIfInBounds_toArray, List.set_cons_zero, List.set_cons_succ, i64_w, i32_w]
      rfl
    refine pure_ (i := 20) (N := some 51) (v := ?_) (a' := ?_) #[true, true, true, true, true, true, true, true, true, true, true, true, true, true, true, true, true, true, true, true, true, false, false, false] rfl rfl (by kernel_rfl) (fun _ _ _ h => h) (Or.inl ⟨by rfl, ?_⟩) ?_ ?_
    rotate_left
    · intro w'
      go_simp
      with_reducible rfl
    rotate_left
    · simp only [Act.put, List.setIfInBounds_toArray, List.set_cons_zero, List.set_cons_succ, i64_w, i32_w]
      rfl
    refine one_ (i := 21) (N := some 52) #[true, true, true, true, true, true, true, true, true, true, true, true, true, true, true, true, true, true, true, true, true, true, false, false] rfl rfl (by kernel_rfl) (by decide) (fun K hK => ?_)
    refine goes_ Try.func36 (by kernel_rfl) rfl #[] (by rfl) rfl rfl (by (try simp only [List.map_toArray, List.map_cons, List.map_nil]); first | done | rfl) ?_
    with_reducible refine (awake17_true _).mono ?_
    rintro e w6 ⟨rfl, hb⟩
    have HB6 := Lib.hid (HB5.out.trans (hb.mono HB5.out.size))
    clear hb
    refine ⟨_, rfl, ?_⟩
    refine hK.out _ _ (HSC.out _ HB6.out) (fun hHeld => ?_)
    clear hK K
    refine norm_ (a' := ?_) ?_ ?_
    rotate_left
    · show Act.put _ (some 52) _ = _
      simp only [Act.put, List.setIfInBounds_toArray, List.set_cons_zero, List.set_cons_succ, i64_w, i32_w]
      rfl
    refine pure_ (i := 22) (N := some 53) (v := ?_) (a' := ?_) #[true, true, true, true, true, true, true, true, true, true, true, true, true, true, true, true, true, true, true, true, true, true, true, false] rfl rfl (by kernel_rfl) (fun _ _ _ h => h) (Or.inl ⟨by rfl, ?_⟩) ?_ ?_
    rotate_left
    · intro w'
      go_simp
      with_reducible rfl
    rotate_left
    · simp only [Act.put, List.setIfInBounds_toArray, List.set_cons_zero, List.set_cons_succ, i64_w, i32_w]
      rfl
    refine pure_ (i := 23) (N := some 2) (v := ?_) (a' := ?_) #[true, true, true, true, true, true, true, true, true, true, true, true, true, true, true, true, true, true, true, true, true, true, true, true] rfl rfl (by kernel_rfl) (fun _ _ _ h => h) (Or.inl ⟨by rfl, ?_⟩) ?_ ?_
    rotate_left
    · intro w'
      go_simp
      with_reducible rfl
    rotate_left
    · simp only [Act.put, List.setIfInBounds_toArray, List.set_cons_zero, List.set_cons_succ, i64_w, i32_w]
      rfl
    refine done_ (by kernel_rfl) ?_
    go_wp2
    go_ret
    exact ⟨rfl, HB6.out⟩
end Go.Proofs.Ytmeojlamadcedaa
namespace Go.Proofs.Ytmeojlamadcedaa.Given
open Go.RowKit Go.Sort Go.Proofs.YtmeojlamadcedaaW.PrintWords Go.Proofs.YtmeojlamadcedaaW.PrintLast
def corporalaw17_PostingsDecodes.f (l0 : List Int) : Option Bool := if Byt l0 then some true else none
theorem corporalaw17_PostingsDecodes.calls (A0 : Option Addr) (c0 : Nat) (l0 : List Int) (r : Bool) (w : World) (hr0 : Kd.C (Kd.int .u8) w A0 l0.length l0) (hc0 : l0.length ≤ c0) (h : corporalaw17_PostingsDecodes.f l0 = some r) :
    Calls Try.prog 12 #[.slice A0 l0.length c0] w fun e w' => e = .returned (.bool r) ∧ Below w.heap.size w w' := by
  unfold corporalaw17_PostingsDecodes.f at h
  split at h
  · rename_i hB
    obtain rfl := Option.some.inj h
    by_cases hl : l0.length ≤ 600
    · exact decodes_in A0 l0.length c0 (u8s l0) w (Bs.ofC (u8s_len l0).symm hc0 (by rw [ints_u8s hB]; exact hr0)) hl
    · exact decodes_over A0 l0.length c0 w (by omega)
  · cases h
end Go.Proofs.Ytmeojlamadcedaa.Given
