/- corporalaw17.awake: the document's example holds.
   Conditions: none. -/
import Derived.Test.YtmeojlamadcedaaPoE
import Derived.Test.YtmeojlamadcedaaCkUn
namespace Go.Proofs.Ytmeojlamadcedaa
set_option linter.unusedSimpArgs false
open Go.RowKit Go.Sort Go.Proofs.YtmeojlamadcedaaW.PrintWords Go.Proofs.YtmeojlamadcedaaW.PrintLast

theorem ex_facts : Po.errF Po.ex = 0 ∧ Po.seekP Po.ex 1 = 4 ∧ Po.rk Po.ex 1 = 1 ∧ Po.rk Po.ex 5 = 2 ∧ (Po.Enc Po.ex).length = 7 ∧ (Given.ints (Po.Enc Po.ex)).take 3 = [3, 7, 178] := by decide

theorem ints_C {w : World} {A : Option Addr} {l : List Int} (hl : l.length ≤ 9223372036854775807) (h : 0 < l.length → ∃ ad, A = some ad ∧ ∀ j, j < l.length → w.cell? (ad.add j) = some (.int .i64 (l.getD j 0))) : Kd.C (Kd.int .i64) w A l.length l :=
  Kd.C_of_reads (d := (0 : Int)) (h1 := fun _ => rfl) ⟨rfl, hl, h⟩

theorem txt_own {w : World} {base : Nat} {v : Value} {l : List UInt8} {n : Nat} (h : w.ownsRow base 5 1 v n (vals l)) : Given.Txt w v (Given.ints l) := by
  have hn := ownB h
  exact Given.Txt.ofOwn (base := base) (n := n) (Given.byt_ints l) (by rw [Given.ints_len, hn]) (by rw [Given.u8s_ints]; exact h)

/-- A list that Build made. -/
structure Made (w0 w : World) (v : Value) (l : List Int) : Prop where
  bel : Below w0.heap.size w0 w
  list : ∃ a gv sv, v = .pointer (some ⟨a, 0, none⟩) ∧ IsList w0.heap.size w a gv sv l

set_option maxHeartbeats 4000000 in
set_option maxRecDepth 100000 in
theorem awake17_true (w : World) : Calls Try.prog 36 #[] w fun e w' => e = .returned (.bool true) ∧ Below w.heap.size w w' := by
  obtain ⟨f1, f2, f3, f4, f5, f6⟩ := ex_facts
  have HB0 : Hid (Below w.heap.size w (w.alloc (.cells #[.int .i64 0, .int .i64 4, .int .i64 5] 3))) := Lib.hid ((Below.refl _ w).alloc (Nat.le_refl _) _)
  have hC : Kd.C (Kd.int .i64) (w.alloc (.cells #[.int .i64 0, .int .i64 4, .int .i64 5] 3)) (some ⟨w.heap.size, 0, none⟩) Po.ex.length Po.ex := ints_C (by decide) (fun _ => ⟨_, rfl, fun j hj => by
    rw [Addr.add_mid, Nat.zero_add]
    refine (blk_cell (blk_new w _) j).trans ?_
    have hj3 : j < 3 := hj
    match j, hj3 with
    | 0, _ => rfl
    | 1, _ => rfl
    | 2, _ => rfl⟩)
  have HBU : Hid (Calls Try.prog 62 #[.slice (some ⟨w.heap.size, 0, none⟩) 3 3] (w.alloc (.cells #[.int .i64 0, .int .i64 4, .int .i64 5] 3)) fun e w' => ∃ a gv sv, e = .returned (.tuple #[.pointer (some ⟨a, 0, none⟩), .int .i64 0]) ∧ IsList (w.heap.size + 1) w' a gv sv Po.ex ∧ Below w.heap.size w w') := Lib.hid (by
    refine (build_calls _ 3 Po.ex _ hC (by decide)).mono fun e w' hq => ?_
    obtain ⟨h1, h2⟩ := hq
    rcases h1 with ⟨hne, _⟩ | ⟨_, a, gv, sv, he, hl⟩
    · exact absurd f1 hne
    · exact ⟨a, gv, sv, he, by simpa using hl, HB0.out.trans (h2.mono (by simp))⟩)
  have HF := Lib.hid (And.intro f2 (And.intro f3 (And.intro f4 (And.intro f5 f6))))
  clear hC f1 f2 f3 f4 f5 f6
  go_enter Try.func36, Try.ntmps36
  go_wp2_with (first
    | (go_at_call 62; (with_reducible refine HBU.out.mono ?_); rintro e w1 ⟨la, gv, sv, rfl, hl, hb1⟩; have HL := Lib.hid hl; have HB1 := Lib.hid hb1
        ; have HS : Hid (Calls Try.prog 40 #[.pointer (some ⟨la, 0, none⟩), .int .i64 1] w1 fun e w' => e = .returned (.tuple #[.int .i64 4, .int .i64 1, .bool true]) ∧ Below w1.heap.size w1 w') := Lib.hid (by
            have h := seek_calls _ la gv sv Po.ex 1 w1 hl
            refine h.mono fun e w' hq => ?_
            obtain ⟨he, hb⟩ := hq
            rw [HF.out.1, HF.out.2.1] at he
            exact ⟨he, hb⟩)
        ; clear hl hb1)
    | (go_at_call 40; (with_reducible refine HS.out.mono ?_); rintro e w2 ⟨rfl, hb2⟩; have HB2 := Lib.hid hb2; have HL2 := Lib.hid (HL.out.later hb2)
        ; have HEN := Lib.hid (encode_calls _ la gv sv Po.ex w2 HL2.out); clear hb2)
    | (go_at_call 37; (with_reducible refine HEN.out.mono ?_); rintro e w3 ⟨v3, rfl, ho3, hb3⟩
        ; have hT := txt_own ho3
        ; rw [HF.out.2.2.2.1] at ho3
        ; obtain ⟨eA, eC, rfl⟩ := own_slice ho3
        ; have heC : (3 : Int) ≤ (eC : Int) ∧ (7 : Int) ≤ (eC : Int) := (by
            rcases ho3.2 with ⟨_, h0⟩ | ⟨g, cap, cur, e, _, _, hc, _⟩
            · omega
            · simp only [Value.slice.injEq] at e; omega)
        ; have he3 := heC.1
        ; have HT := Lib.hid (hT.take 3 (by decide))
        ; have HB3 := Lib.hid hb3
        ; have HRK : Hid (Calls Try.prog 61 #[.pointer (some ⟨la, 0, none⟩), .int .i64 5] w3 fun e w' => e = .returned (.int .i64 2) ∧ Below w3.heap.size w3 w') := Lib.hid (by
            have h := rank_calls _ la gv sv Po.ex 5 w3 (HL2.out.later hb3)
            rw [HF.out.2.2.1] at h
            exact h)
        ; clear ho3 hb3 hT heC)
    | (go_at_call 61; (with_reducible refine HRK.out.mono ?_); rintro e w4 ⟨rfl, hb4⟩; have HB4 := Lib.hid hb4
        ; have hcv : (convert 22 9 (.slice eA 3 eC)).run Try.prog w4 = .ok (.string { data := #[3, 7, 178] }) w4 := (by
            have h := (HT.out.below hb4).run
            rw [HF.out.2.2.2.2] at h
            exact h)
        ; clear hb4))
  go_ret
  refine ⟨rfl, ?_⟩
  have h2 := HB1.out.trans (HB2.out.mono HB1.out.size)
  have h3 := h2.trans (HB3.out.mono h2.size)
  exact h3.trans (HB4.out.mono h3.size)
end Go.Proofs.Ytmeojlamadcedaa
