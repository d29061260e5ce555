/- checksum.Unseal: the sum of all but the last four bytes is what those say.
   Conditions: those of the theorems. -/
import Derived.Test.YtmeojlamadcedaaCkSeal
import Derived.Laws.Cover3
import Derived.ChangeKeysEq
import Derived.Laws.StructEq
namespace Go.Proofs.Ytmeojlamadcedaa
open Go.RowKit Go.Sort Go.Proofs.YtmeojlamadcedaaW.PrintWords

theorem und5 : Try.prog.underlying 5 = some (.int .u8) := by kernel_rfl
theorem eq4 (a b c d a' b' c' d' : Int) (w : World) : (Op.equalIn 10000 83 (.agg #[.int .u8 a, .int .u8 b, .int .u8 c, .int .u8 d]) (.agg #[.int .u8 a', .int .u8 b', .int .u8 c', .int .u8 d'])).run Try.prog w = .ok (a == a' && (b == b' && (c == c' && d == d'))) w := by
  obtain ⟨i, hi, _, h2, _⟩ := info5
  have hc : Try.prog.cellsOf 5 = 1 := by kernel_rfl
  have hp : ∀ (xs : Array Value) (o : Nat) (v : Value), xs[o]? = some v → (part 5 xs o).run Try.prog w = .ok v w := fun xs o v h => by
    simp [part, isAgg, run_underlying und5, h]
  rw [show 10000 = 9999 + 1 from rfl, run_equalIn_array w 9999 _ _ (show Try.prog.underlying 83 = some (.array 4 5) by kernel_rfl) hi, hc]
  have hr : List.range 4 = [0, 1, 2, 3] := by decide
  have he : ∀ x y : Int, (Op.equalIn 9999 5 (.int .u8 x) (.int .u8 y)).run Try.prog w = .ok (x == y) w := fun x y => run_equalIn_int w 9998 5 .u8 .u8 x y und5
  rw [hr]
  simp only [Op.eqItems, Sem.run_bind, Nat.mul_one]
  have p0 := hp #[.int .u8 a, .int .u8 b, .int .u8 c, .int .u8 d] 0 (.int .u8 a) rfl
  have q0 := hp #[.int .u8 a', .int .u8 b', .int .u8 c', .int .u8 d'] 0 (.int .u8 a') rfl
  have p1 := hp #[.int .u8 a, .int .u8 b, .int .u8 c, .int .u8 d] 1 (.int .u8 b) rfl
  have q1 := hp #[.int .u8 a', .int .u8 b', .int .u8 c', .int .u8 d'] 1 (.int .u8 b') rfl
  have p2 := hp #[.int .u8 a, .int .u8 b, .int .u8 c, .int .u8 d] 2 (.int .u8 c) rfl
  have q2 := hp #[.int .u8 a', .int .u8 b', .int .u8 c', .int .u8 d'] 2 (.int .u8 c') rfl
  have p3 := hp #[.int .u8 a, .int .u8 b, .int .u8 c, .int .u8 d] 3 (.int .u8 d) rfl
  have q3 := hp #[.int .u8 a', .int .u8 b', .int .u8 c', .int .u8 d'] 3 (.int .u8 d') rfl
  simp only [p0, q0, he, Result.andThen_ok]
  cases a == a'
  · simp
  simp only [Bool.not_true, Bool.false_eq_true, if_false, Sem.run_bind, p1, q1, he, Result.andThen_ok]
  cases b == b'
  · simp
  simp only [Bool.not_true, Bool.false_eq_true, if_false, Sem.run_bind, p2, q2, he, Result.andThen_ok]
  cases c == c'
  · simp
  simp only [Bool.not_true, Bool.false_eq_true, if_false, Sem.run_bind, p3, q3, he, Result.andThen_ok]
  cases d == d' <;> simp
theorem le4_eq (s : Nat) (hs : s < 2 ^ 32) (m : List UInt8) (hm : m.length = 4) :
    ((((s % 256 : Nat) : Int) == ((m.getD 0 0).toNat : Nat)) && ((((s / 256 % 256 : Nat) : Int) == ((m.getD 1 0).toNat : Nat)) && ((((s / 65536 % 256 : Nat) : Int) == ((m.getD 2 0).toNat : Nat)) && (((s / 16777216 : Nat) : Int) == ((m.getD 3 0).toNat : Nat))))) = decide (Ck.le4 s = m) := by
  obtain ⟨a, b, c, d, rfl⟩ : ∃ a b c d, m = [a, b, c, d] := by
    match m, hm with
    | [a, b, c, d], _ => exact ⟨a, b, c, d, rfl⟩
  have key : ∀ (x : Nat) (y : UInt8), UInt8.ofNat x = y ↔ x % 256 = y.toNat := fun x y => by
    rw [← UInt8.toNat_inj, UInt8.toNat_ofNat']
  have e3 : s / 16777216 = s / 16777216 % 256 := by omega
  rw [e3]
  simp only [Ck.le4, List.getD_cons_zero, List.getD_cons_succ, List.cons.injEq, and_true, key]
  rw [Bool.eq_iff_iff]
  simp only [Bool.and_eq_true, beq_iff_eq, decide_eq_true_eq, Int.natCast_inj]

theorem unseal_short (A : Option Addr) (cap : Nat) (l : List UInt8) (w : World) (hl : l.length < 4) :
    Calls Try.prog 31 #[.slice A l.length cap] w fun e w' => e = .returned (.tuple #[.slice none 0 0, .int .i64 10]) ∧ Below w.heap.size w w' := by
  have hz : decide ((l.length : Int) < 4) = true := by simp; omega
  go_enter Try.func31, Try.ntmps31
  go_wp2
  go_ret2
  exact ⟨rfl, Below.refl _ _⟩

/-- What Unseal leaves behind. -/
def UnPost (w : World) (sm n : Nat) (l : List UInt8) (e : Ending) (w' : World) : Prop :=
  (if Ck.le4 sm = l.drop n then ∃ v, e = .returned (.tuple #[v, .int .i64 0]) ∧ w'.ownsRow w.heap.size 5 1 v n (vals (l.take n)) else e = .returned (.tuple #[.slice none 0 0, .int .i64 9])) ∧ Below w.heap.size w w'
theorem UnPost.bad {w : World} {sm n : Nat} {l : List UInt8} {w' : World} (h : decide (Ck.le4 sm = l.drop n) = false) (hb : Below w.heap.size w w') : UnPost w sm n l (.returned (.tuple #[.slice none 0 0, .int .i64 9])) w' :=
  ⟨by rw [if_neg (of_decide_eq_false h)], hb⟩
theorem UnPost.good {w : World} {sm n : Nat} {l : List UInt8} {w' : World} {v : Value} (h : decide (Ck.le4 sm = l.drop n) = true) (ho : w'.ownsRow w.heap.size 5 1 v n (vals (l.take n))) (hb : Below w.heap.size w w') : UnPost w sm n l (.returned (.tuple #[v, .int .i64 0])) w' :=
  ⟨by rw [if_pos (of_decide_eq_true h)]; exact ⟨v, rfl, ho⟩, hb⟩

set_option maxHeartbeats 2000000 in
set_option maxRecDepth 100000 in
theorem unseal_long (ad : Addr) (cap n : Nat) (l : List UInt8) (w : World) (hn : l.length < 1152921504606846976) (hb : l.length < 140737488351232) (hln : l.length = n + 4)
    (hc : ∀ i, i < l.length → w.cell? (ad.add i) = some (.int .u8 ((l.getD i 0).toNat : Nat))) (hcap : l.length ≤ cap) :
    Calls Try.prog 31 #[.slice (some ad) l.length cap] w fun e w' => UnPost w (Ck.sum (l.take n)) n l e w' := by
  have HC := Lib.hid hc
  clear hc
  have hz : decide ((l.length : Int) < 4) = false := by simp; omega
  have hlm : (l.length : Int) - 4 = (n : Int) := by omega
  have hcn : ¬ cap = n := by omega
  have h0n : (0 : Int) ≤ (n : Int) := by omega
  have hnl : (n : Int) ≤ (l.length : Int) := by omega
  have hnc : (n : Int) ≤ (cap : Int) := by omega
  have hlc : (l.length : Int) ≤ (cap : Int) := by omega
  have hd4 : l.length - n = 4 := by omega
  obtain ⟨q, hq⟩ : ∃ q, ad.add n = q := ⟨_, rfl⟩
  have hqj : ∀ j, j < 4 → w.cell? (q.add j) = some (.int .u8 ((l.getD (n + j) 0).toNat : Nat)) := fun j hj => by
    rw [← hq, add_add]; exact HC.out (n + j) (by omega)
  have c0 : w.cell? q = some (.int .u8 ((l.getD n 0).toNat : Nat)) := by have := hqj 0 (by omega); rwa [Addr.add_zero', Nat.add_zero] at this
  have c1 : w.cell? ⟨q.block, q.off + 1, none⟩ = some (.int .u8 ((l.getD (n + 1) 0).toNat : Nat)) := by have := hqj 1 (by omega); rwa [Addr.add_succ'] at this
  have c2 : w.cell? ⟨q.block, q.off + 2, none⟩ = some (.int .u8 ((l.getD (n + 2) 0).toNat : Nat)) := by have := hqj 2 (by omega); rwa [Addr.add_succ'] at this
  have c3 : w.cell? ⟨q.block, q.off + 3, none⟩ = some (.int .u8 ((l.getD (n + 3) 0).toNat : Nat)) := by have := hqj 3 (by omega); rwa [Addr.add_succ'] at this
  clear hqj
  obtain ⟨x1, hx1⟩ : ∃ x, (l.getD (n + 1) 0).toNat = x := ⟨_, rfl⟩
  obtain ⟨x2, hx2⟩ : ∃ x, (l.getD (n + 2) 0).toNat = x := ⟨_, rfl⟩
  obtain ⟨x3, hx3⟩ : ∃ x, (l.getD (n + 3) 0).toNat = x := ⟨_, rfl⟩
  obtain ⟨x0, hx0⟩ : ∃ x, (l.getD n 0).toNat = x := ⟨_, rfl⟩
  rw [hx0] at c0
  rw [hx1] at c1
  rw [hx2] at c2
  rw [hx3] at c3
  have HX0 := Lib.hid hx0
  have HX1 := Lib.hid hx1
  have HX2 := Lib.hid hx2
  have HX3 := Lib.hid hx3
  clear hx0 hx1 hx2 hx3
  have HSL := Lib.hid (Ck.sum_lt (l.take n))
  have HT : Hid (∀ W : World, Below w.heap.size w W → Calls Try.prog 27 #[.slice (some ad) n cap] W fun e w' => e = .returned (.int .u32 (Ck.sum (l.take n))) ∧ Below W.heap.size W w') := Lib.hid (fun W hW => by
    have h := sum_some ad cap (l.take n) W (by rw [List.length_take]; omega) (fun i hi => by
      rw [List.length_take] at hi
      rw [List.getD_eq_getElem?_getD, List.getElem?_take_of_lt (by omega), ← List.getD_eq_getElem?_getD]
      exact cell_later hW (HC.out i (by omega)))
    rwa [List.length_take, Nat.min_eq_left (by omega)] at h)
  have hat : ∀ W, (Instr.arrayAt 83 (.slice (some q) 4 (cap - n))).run Try.prog W = .ok (.pointer (some q)) W := fun W => run_arrayAt W 83 _ 4 _ 4 (cap - n) (show Try.prog.underlying 83 = some (.array 4 5) by kernel_rfl) (Nat.le_refl _)
  have HSL2 := Lib.hid (list4 (Ck.sum (l.take n)) HSL.out)
  generalize Ck.sum (l.take n) = sm at *
  have heq : ∀ W, (Op.equalIn 10000 83 (.agg (cells4 sm)) (.agg #[.int .u8 x0, .int .u8 x1, .int .u8 x2, .int .u8 x3])).run Try.prog W = .ok (decide (Ck.le4 sm = l.drop n)) W := fun W => by
    rw [cells4, eq4, ← le4_eq sm HSL.out (l.drop n) (by rw [List.length_drop]; omega), ← HX0.out, ← HX1.out, ← HX2.out, ← HX3.out]
    simp only [List.getD_eq_getElem?_getD, List.getElem?_drop, Nat.add_zero]
  obtain ⟨good, hgood⟩ : ∃ good, decide (Ck.le4 sm = l.drop n) = good := ⟨_, rfl⟩
  have HG := Lib.hid hgood
  rw [hgood] at heq
  clear hgood
  go_enter Try.func31, Try.ntmps31
  go_wp2
  go_region_with (first
    | (go_at_call 27; (with_reducible refine (HT.out _ (Below.refl _ w).drew).mono ?_); rintro e w1 ⟨rfl, hb1⟩; have HB1 := Lib.hid hb1; have c0 := cell_later hb1 (w := w.drew) c0; have c1 := cell_later hb1 (w := w.drew) c1; have c2 := cell_later hb1 (w := w.drew) c2; have c3 := cell_later hb1 (w := w.drew) c3; clear hb1)
    | (go_at_call 67; (with_reducible refine (bytesOf_calls sm HSL.out _).mono ?_); rintro e w2 ⟨rfl, hb2⟩; have HB2 := Lib.hid hb2;  have c0 := cell_later hb2 c0; have c1 := cell_later hb2 c1; have c2 := cell_later hb2 c2; have c3 := cell_later hb2 c3; clear hb2))
  all_goals
    have HB3 : Hid (Below w.heap.size w w2) := Lib.hid (((Below.refl _ w).drew.trans HB1.out).trans (HB2.out.mono HB1.out.size))
    have hv : Hid ((vals (l.take n)).length = n * 1) := Lib.hid (by rw [vals, List.length_map, List.length_take]; omega)
    have htl : Hid ((l.take n).length = n) := Lib.hid (by rw [List.length_take]; omega)
    have hvc : Hid (∀ j u, (vals (l.take n))[j]? = some u → (w2.alloc (.cells #[] 5)).cell? (ad.add j) = some u) := Lib.hid (vals_at (fun i hi => by
      rw [htl.out] at hi
      rw [List.getD_eq_getElem?_getD, List.getElem?_take_of_lt hi, ← List.getD_eq_getElem?_getD]
      exact cell_later (HB3.out.alloc HB3.out.size _) (HC.out i (by omega))))
    clear HB1 HB2 HT HSL2 HX0 HX1 HX2 HX3 hat heq
    cases good
    · go_wp2
      go_ret2
      exact UnPost.bad HG.out HB3.out
    · obtain ⟨i, hi, hi1, hi2, hi3⟩ := info5
      have hb0 : Hid (n * 1 ≤ 140737488355328 ∧ n ≤ maxLen) := Lib.hid (by simp only [maxLen]; omega)
      have hown0 : Hid ((w2.alloc (.cells #[] 5)).ownsRow w.heap.size 5 1 (.slice (some ⟨w2.heap.size, 0, none⟩) 0 0) 0 []) := Lib.hid (World.ownsRow_lit w2 #[] 0 HB3.out.size (by simp [maxLen]) rfl)
      go_wp2_with (first
        | ((with_reducible refine gate_dst (N := 26) rfl ?_); refine wpList_append_own (w2.alloc (.cells #[] 5)) rfl (.tmp 22) (.tmp 25) 22 rfl w.heap.size 5 i (.int .u8 0) 1 1 (show Try.prog.underlying 22 = some (.slice 5) by kernel_rfl) hi hi1 hi2 hi3 rfl (by decide) _ 0 [] rfl hown0.out ad n cap (vals (l.take n)) rfl hv.out hvc.out (vals_one _) (by rw [Nat.zero_add]; exact hb0.out.2) (by rw [Nat.zero_add]; exact hb0.out.1) (Nat.le_trans HB3.out.size (by simp)) ?_; intro v1 w3 hown hgr _; have HOWN := Lib.hid hown; have HGR := Lib.hid (Below.grown (HB3.out.alloc HB3.out.size _) hgr (Nat.le_trans HB3.out.size (by simp)) (fun k hk => by cases hk; exact HB3.out.size)); clear hown hgr))
      go_ret2
      have h := HOWN.out
      rw [Nat.zero_add, List.nil_append] at h
      exact UnPost.good HG.out h HGR.out

end Go.Proofs.Ytmeojlamadcedaa
