/- corporalaw17: what the reference's Check and Seek come to; built; PostingsSeeks.
   Conditions: those of the theorems. -/
import Derived.Test.YtmeojlamadcedaaPoA
import Derived.Test.YtmeojlamadcedaaCkU
import Derived.Test.YtmeojlamadcedaaRx1

namespace Go.Proofs.Ytmeojlamadcedaa
set_option linter.unusedSimpArgs false
open Go.RowKit Go.Sort Go.Proofs.YtmeojlamadcedaaW.PrintWords Go.Proofs.YtmeojlamadcedaaW.PrintLast Go.Proofs.YtmeojlamadcedaaW.PrintMore

theorem check_l (l : List Int) (hl : l.length < 1000000) : ∀ (d i : Nat), i + d = l.length → Po.chk l i = 0 →
    Ev (fun k => R.corporaref17_Check.l0 k l l (l.length : Int) (i : Int)) (Po.chk l l.length)
  | 0, i, hd, hc => by
    obtain rfl : i = l.length := by omega
    refine Ev0.Ev_next ?_
    have c : ¬ ((l.length : Int) < (l.length : Int)) := by omega
    have e : ∀ k, R.corporaref17_Check.l0 (k + 1) l l (l.length : Int) (l.length : Int) = some (Po.chk l l.length) := fun k => by
      rw [R.corporaref17_Check.l0, if_neg c, hc]
    rw [funext e]
    exact Ev.now _
  | d + 1, i, hd, hc => by
    have c1 : (i : Int) < (l.length : Int) := by omega
    have c0 : (0 : Int) ≤ (i : Int) := by omega
    refine Ev0.Ev_next ?_
    by_cases hr : l.getD i 0 < 0 ∨ 2147483647 < l.getD i 0
    · have h8 := Po.chk_range l i hc hr
      have hN := Po.chk_mono l (i + 1) (by rw [h8]; decide) l.length (by omega)
      have e : ∀ k, R.corporaref17_Check.l0 (k + 1) l l (l.length : Int) (i : Int) = R.corporaref17_Check.j1 k l (i : Int) (l.getD i 0) l (l.length : Int) (i : Int) true := fun k => by
        rw [R.corporaref17_Check.l0, if_pos c1, if_pos c0, if_pos c1, Ev0.rd_nat]
        by_cases h0 : l.getD i 0 < 0
        · rw [if_pos h0]
        · rw [if_neg h0, decide_eq_true (by omega)]
      rw [funext e]
      refine Ev0.Ev_next ?_
      have e2 : ∀ k, R.corporaref17_Check.j1 (k + 1) l (i : Int) (l.getD i 0) l (l.length : Int) (i : Int) true = some (Po.chk l l.length) := fun k => by
        rw [R.corporaref17_Check.j1, if_pos rfl, hN, h8]
      rw [funext e2]
      exact Ev.now _
    · have e : ∀ k, R.corporaref17_Check.l0 (k + 1) l l (l.length : Int) (i : Int) = R.corporaref17_Check.j1 k l (i : Int) (l.getD i 0) l (l.length : Int) (i : Int) false := fun k => by
        rw [R.corporaref17_Check.l0, if_pos c1, if_pos c0, if_pos c1, Ev0.rd_nat, if_neg (by omega), decide_eq_false (by omega)]
      rw [funext e]
      refine Ev0.Ev_next ?_
      have hw : RowKit.wrap64 ((i : Int) + 1) = ((i + 1 : Nat) : Int) := Ev0.w1 (by omega)
      cases i with
      | zero =>
        have ih := check_l l hl d 1 (by omega) ((Po.chk_fine l 0 hc).2 ⟨by omega, by omega, by show (-1 : Int) < _; omega⟩)
        have e2 : ∀ k, R.corporaref17_Check.j1 (k + 1) l ((0 : Nat) : Int) (l.getD 0 0) l (l.length : Int) ((0 : Nat) : Int) false = R.corporaref17_Check.l0 k l l (l.length : Int) ((1 : Nat) : Int) := fun k => by
          rw [R.corporaref17_Check.j1, if_neg (by decide), if_neg (by omega), hw]
        rw [funext e2]
        exact ih
      | succ j =>
        have hwm : RowKit.wrap64 (((j + 1 : Nat) : Int) - 1) = (j : Int) := wsmall' (by omega) (by omega) (by omega)
        have cj0 : (0 : Int) ≤ (j : Int) := by omega
        have cj1 : (j : Int) < (l.length : Int) := by omega
        by_cases ho : l.getD (j + 1) 0 ≤ l.getD j 0
        · have h6 := Po.chk_order l (j + 1) hc hr ho
          have hN := Po.chk_mono l (j + 1 + 1) (by rw [h6]; decide) l.length (by omega)
          have e2 : ∀ k, R.corporaref17_Check.j1 (k + 1) l ((j + 1 : Nat) : Int) (l.getD (j + 1) 0) l (l.length : Int) ((j + 1 : Nat) : Int) false = some (Po.chk l l.length) := fun k => by
            rw [R.corporaref17_Check.j1, if_neg (by decide), if_pos (show ((j + 1 : Nat) : Int) > 0 by omega), hwm, if_pos cj0, if_pos cj1, Ev0.rd_nat, if_pos (show l.getD j 0 ≥ l.getD (j + 1) 0 from ho), hN, h6]
          rw [funext e2]
          exact Ev.now _
        · have ih := check_l l hl d (j + 2) (by omega) ((Po.chk_fine l (j + 1) hc).2 ⟨by omega, by omega, by show l.getD j 0 < _; omega⟩)
          have e2 : ∀ k, R.corporaref17_Check.j1 (k + 1) l ((j + 1 : Nat) : Int) (l.getD (j + 1) 0) l (l.length : Int) ((j + 1 : Nat) : Int) false = R.corporaref17_Check.l0 k l l (l.length : Int) ((j + 2 : Nat) : Int) := fun k => by
            rw [R.corporaref17_Check.j1, if_neg (by decide), if_pos (show ((j + 1 : Nat) : Int) > 0 by omega), hwm, if_pos cj0, if_pos cj1, Ev0.rd_nat, if_neg (show ¬ l.getD j 0 ≥ l.getD (j + 1) 0 from ho), hw]
          rw [funext e2]
          exact ih
theorem check_ev (l : List Int) (hl : l.length < 1000000) : ∃ k, R.corporaref17_Check.f k l = some (Po.errF l) := by
  refine Ev.rounds (g := fun k => R.corporaref17_Check.f k l) ?_
  unfold R.corporaref17_Check.f Po.errF
  by_cases h : (l.length : Int) > 4096
  · rw [if_pos (show 4096 < l.length by omega)]
    simp only [if_pos h]
    exact Ev.now _
  · rw [if_neg (show ¬ 4096 < l.length by omega)]
    simp only [if_neg h]
    exact check_l l hl l.length 0 (by omega) rfl

theorem seek_l (l : List Int) (p : Int) (hl : l.length < 1000000) : ∀ (d i : Nat), i + d = l.length → i ≤ Po.rk l p →
    Ev (fun k => R.corporaref17_Seek.l0 k l p l (l.length : Int) (i : Int)) (Po.seekP l p, (Po.rk l p : Int), decide (Po.rk l p < l.length))
  | 0, i, hd, hc => by
    obtain rfl : i = l.length := by omega
    refine Ev0.Ev_next ?_
    have hle := Po.rk_le l p
    have hrk : Po.rk l p = l.length := by omega
    have c : ¬ ((l.length : Int) < (l.length : Int)) := by omega
    have hs : Po.seekP l p = 0 := by unfold Po.seekP; rw [hrk, List.getD_eq_getElem?_getD, List.getElem?_eq_none (Nat.le_refl _)]; rfl
    have e : ∀ k, R.corporaref17_Seek.l0 (k + 1) l p l (l.length : Int) (l.length : Int) = some (Po.seekP l p, (Po.rk l p : Int), decide (Po.rk l p < l.length)) := fun k => by
      rw [R.corporaref17_Seek.l0, if_neg c, hs, hrk, decide_eq_false (by omega)]
    rw [funext e]
    exact Ev.now _
  | d + 1, i, hd, hc => by
    have c1 : (i : Int) < (l.length : Int) := by omega
    have c0 : (0 : Int) ≤ (i : Int) := by omega
    refine Ev0.Ev_next ?_
    by_cases hx : p ≤ l.getD i 0
    · have hrk : Po.rk l p = i := by
        rcases Nat.lt_or_ge i (Po.rk l p) with h | h
        · have := Po.rk_lt l p i h; omega
        · omega
      have hs : Po.seekP l p = l.getD i 0 := by unfold Po.seekP; rw [hrk]
      have e : ∀ k, R.corporaref17_Seek.l0 (k + 1) l p l (l.length : Int) (i : Int) = some (Po.seekP l p, (Po.rk l p : Int), decide (Po.rk l p < l.length)) := fun k => by
        rw [R.corporaref17_Seek.l0, if_pos c1, if_pos c0, if_pos c1, Ev0.rd_nat, if_pos (show l.getD i 0 ≥ p from hx), hs, hrk, decide_eq_true (by omega)]
      rw [funext e]
      exact Ev.now _
    · have hrk : i + 1 ≤ Po.rk l p := by
        rcases Nat.lt_or_ge i (Po.rk l p) with h | h
        · exact h
        · have he : Po.rk l p = i := by omega
          have h2 := Po.rk_ge l p (by omega)
          rw [he] at h2
          exact absurd h2 hx
      have ih := seek_l l p hl d (i + 1) (by omega) hrk
      have hw : RowKit.wrap64 ((i : Int) + 1) = ((i + 1 : Nat) : Int) := Ev0.w1 (by omega)
      have e : ∀ k, R.corporaref17_Seek.l0 (k + 1) l p l (l.length : Int) (i : Int) = R.corporaref17_Seek.l0 k l p l (l.length : Int) ((i + 1 : Nat) : Int) := fun k => by
        rw [R.corporaref17_Seek.l0, if_pos c1, if_pos c0, if_pos c1, Ev0.rd_nat, if_neg (show ¬ l.getD i 0 ≥ p from hx), hw]
      rw [funext e]
      exact ih
theorem seek_ev (l : List Int) (p : Int) (hl : l.length < 1000000) : ∃ k, R.corporaref17_Seek.f k l p = some (Po.seekP l p, (Po.rk l p : Int), decide (Po.rk l p < l.length)) := by
  refine Ev.rounds (g := fun k => R.corporaref17_Seek.f k l p) ?_
  unfold R.corporaref17_Seek.f
  exact seek_l l p hl l.length 0 (by omega) (Nat.zero_le _)

/-- What built leaves behind. -/
def BuiltPost (w : World) (l : List Int) (e : Ending) (w' : World) : Prop :=
  (Po.errF l ≠ 0 ∧ e = .returned (.tuple #[.pointer none, .bool true]) ∨
    Po.errF l = 0 ∧ ∃ a gv sv, e = .returned (.tuple #[.pointer (some ⟨a, 0, none⟩), .bool true]) ∧ IsList w.heap.size w' a gv sv l) ∧ Below w.heap.size w w'

set_option maxHeartbeats 2000000 in
set_option maxRecDepth 100000 in
theorem built_calls (A0 : Option Addr) (c0 : Nat) (l : List Int) (w : World) (hr : Kd.C (Kd.int .i64) w A0 l.length l) (hc0 : l.length ≤ c0) (hlen : l.length ≤ 4096) :
    Calls Try.prog 35 #[.slice A0 l.length c0] w fun e w' => BuiltPost w l e w' := by
  obtain ⟨k, hk⟩ := check_ev l (by omega)
  have HB := Lib.hid (build_calls A0 c0 l w hr hlen)
  have HCK : Hid (∀ W, Below w.heap.size w W → Calls Try.prog 70 #[.slice A0 l.length c0] W fun e w' => e = .returned (.int .i64 (Po.errF l)) ∧ Below W.heap.size W w') := Lib.hid (fun W hW => by
    refine (R.corporaref17_Check.calls k A0 c0 l (Po.errF l) W (Kd.C_below hr hW) hc0 hk).mono fun e w' hq => ?_
    obtain ⟨he, ⟨q, rfl⟩⟩ := hq
    exact ⟨he, below_drewN (Below.refl _ _) q⟩)
  clear hr hk
  obtain ⟨er, her⟩ : ∃ er, Po.errF l = er := ⟨_, rfl⟩
  have HER := Lib.hid her
  rw [her] at HCK
  clear her
  by_cases h0 : er = 0
  · subst h0
    have HB2 : Hid (Calls Try.prog 62 #[.slice A0 l.length c0] w fun e w' => ∃ a gv sv, e = .returned (.tuple #[.pointer (some ⟨a, 0, none⟩), .int .i64 0]) ∧ IsList w.heap.size w' a gv sv l ∧ Below w.heap.size w w') := Lib.hid (by
      refine HB.out.mono fun e w' hq => ?_
      obtain ⟨h1, h2⟩ := hq
      rcases h1 with ⟨hne, _⟩ | ⟨_, a, gv, sv, he, hl⟩
      · exact absurd HER.out hne
      · exact ⟨a, gv, sv, he, hl, h2⟩)
    clear HB
    go_enter Try.func35, Try.ntmps35
    go_wp2_with (first
      | (go_at_call 62; (with_reducible refine HB2.out.mono ?_); rintro e w1 ⟨la, gv, sv, rfl, hl, hb⟩; have HL := Lib.hid hl; have HB1 := Lib.hid hb; clear hl hb)
      | (go_at_call 70; (with_reducible refine (HCK.out _ HB1.out).mono ?_); rintro e w2 ⟨rfl, hb⟩; have HBB := Lib.hid hb; clear hb))
    go_ret2
    exact ⟨.inr ⟨HER.out, la, gv, sv, rfl, HL.out.later HBB.out⟩, HB1.out.trans (HBB.out.mono HB1.out.size)⟩
  · have HB2 : Hid (Calls Try.prog 62 #[.slice A0 l.length c0] w fun e w' => e = .returned (.tuple #[.pointer none, .int .i64 er]) ∧ Below w.heap.size w w') := Lib.hid (by
      refine HB.out.mono fun e w' hq => ?_
      obtain ⟨h1, h2⟩ := hq
      rcases h1 with ⟨_, he⟩ | ⟨hz, _⟩
      · rw [HER.out] at he; exact ⟨he, h2⟩
      · rw [HER.out] at hz; exact absurd hz h0)
    have hd : (er == 0) = false := by simpa using h0
    have hd2 : decide (er = 0) = false := by simpa using h0
    clear HB
    go_enter Try.func35, Try.ntmps35
    go_wp2_with (first
      | (go_at_call 62; (with_reducible refine HB2.out.mono ?_); rintro e w1 ⟨rfl, hb⟩; have HB1 := Lib.hid hb; clear hb)
      | (go_at_call 70; (with_reducible refine (HCK.out _ HB1.out).mono ?_); rintro e w2 ⟨rfl, hb⟩; have HBB := Lib.hid hb; clear hb))
    go_ret2
    exact ⟨.inl ⟨by rw [HER.out]; exact h0, rfl⟩, HB1.out.trans (HBB.out.mono HB1.out.size)⟩
end Go.Proofs.Ytmeojlamadcedaa
