/- What the reference's Top, Low, Pack, Unpack, number, zeros and Write come to, with enough rounds.
   Conditions: those of the theorems. -/
import Derived.Test.YtmeojlamadcedaaPoTake
import Derived.Test.YtmeojlamadcedaaPoP
import Derived.Test.YtmeojlamadcedaaDx2
import Derived.Test.YtmeojlamadcedaaD2x1
namespace Go.Proofs.Ytmeojlamadcedaa.Po
set_option linter.unusedSimpArgs false
set_option linter.unusedVariables false
open Go.RowKit Go.Sort Go.Proofs.Ytmeojlamadcedaa.Given Go.Proofs.YtmeojlamadcedaaW.PrintWords Go.Proofs.YtmeojlamadcedaaW.PrintLast Go.Proofs.YtmeojlamadcedaaW.PrintMore

theorem u64w {i : Nat} (h : i < 18446744073709551616) : IntKind.u64.wrap (i : Int) = (i : Int) := by
  simp [IntKind.wrap, IntKind.bits, IntKind.signed]
  omega
theorem shr64 (v n : Nat) (hn : n ≤ 64) : shr .u64 (v : Int) (n : Int) = ((v / 2 ^ n : Nat) : Int) := by
  unfold shr
  rw [Int.toNat_natCast, Nat.min_eq_left (show n ≤ IntKind.u64.bits from hn), Int.natCast_ediv, Int.natCast_pow]; rfl
theorem bit64 (v n : Nat) (hv : v < 18446744073709551616) (hn : n ≤ 64) : (Go.bits .and .u64 (shr .u64 (v : Int) (n : Int)) 1 == 1) = v.testBit n := by
  have h1 : v / 2 ^ n ≤ v := Nat.div_le_self _ _
  rw [shr64 v n hn, Nat.testBit_eq_decide_div_mod_eq]
  obtain ⟨q, hq⟩ : ∃ q, v / 2 ^ n = q := ⟨_, rfl⟩
  rw [hq] at h1 ⊢
  rw [and_one_u64 _ (by omega) (by omega)]
  rcases Nat.mod_two_eq_zero_or_one q with h | h
  · rw [h, show (q : Int) % 2 = 0 by omega]; rfl
  · rw [h, show (q : Int) % 2 = 1 by omega]; rfl

theorem low_l (v : Nat) (hv : v < 18446744073709551616) : ∀ (n : Nat) (acc : List Bool), n ≤ 64 → acc.length + n ≤ 1000 → Ev (fun k => D.corporaref02_Low.l0 k (v : Int) acc ((n : Int) - 1)) (acc ++ low v n)
  | 0, acc, _, _ => by
    refine Ev0.Ev_next ?_
    have e : ∀ k, D.corporaref02_Low.l0 (k + 1) (v : Int) acc (((0 : Nat) : Int) - 1) = some (acc ++ low v 0) := fun k => by
      rw [D.corporaref02_Low.l0, if_neg (by omega), low, List.append_nil]
    rw [funext e]
    exact Ev.now _
  | n + 1, acc, h1, h2 => by
    have ih := low_l v hv n (acc ++ [v.testBit n]) (by omega) (by simp; omega)
    have hb := bit64 v n hv (by omega)
    have hw : RowKit.wrap64 ((n : Int) - 1) = (n : Int) - 1 := wsmall' rfl (by omega) (by omega)
    have hu : IntKind.u64.wrap (n : Int) = (n : Int) := u64w (by omega)
    refine Ev0.Ev_next ?_
    have e : ∀ k, D.corporaref02_Low.l0 (k + 1) (v : Int) acc (((n + 1 : Nat) : Int) - 1) = D.corporaref02_Low.l0 k (v : Int) (acc ++ [v.testBit n]) ((n : Int) - 1) := fun k => by
      rw [D.corporaref02_Low.l0, show (((n + 1 : Nat) : Int) - 1) = (n : Int) by clear hw hu; omega, if_pos (by clear hw hu; omega), hu, if_pos (by clear hw hu; omega), if_pos (by clear hw hu; omega), hb, hw]
    rw [funext e, low, show acc ++ v.testBit n :: low v n = (acc ++ [v.testBit n]) ++ low v n by rw [List.append_assoc]; rfl]
    exact ih
theorem low_ev (v n : Nat) (hv : v < 18446744073709551616) (hn : n ≤ 64) : Ev (fun k => D.corporaref02_Low.f k (v : Int) (n : Int)) (low v n) := by
  unfold D.corporaref02_Low.f
  rw [wsmall' (x := (n : Int) - 1) rfl (by omega) (by omega)]
  have h := low_l v hv n [] hn (by simp; omega)
  rwa [List.nil_append] at h

theorem top_l : ∀ (d x n : Nat), x.log2 = d → 1 ≤ x → x < 18446744073709551616 → n + d < 1000 → Ev (fun k => D.corporaref02_Top.l0 k (x : Int) (n : Int)) (((n + d : Nat)) : Int)
  | 0, x, n, hd, h1, h2, h3 => by
    have hx : x < 2 := by
      have := (Nat.log2_lt (n := x) (k := 1) (by omega)).1 (by omega)
      simpa using this
    refine Ev0.Ev_next ?_
    have e : ∀ k, D.corporaref02_Top.l0 (k + 1) (x : Int) (n : Int) = some (((n + 0 : Nat)) : Int) := fun k => by
      rw [D.corporaref02_Top.l0, if_neg (by omega)]; rfl
    rw [funext e]
    exact Ev.now _
  | d + 1, x, n, hd, h1, h2, h3 => by
    have hx : 2 ≤ x := by
      rcases Nat.lt_or_ge x 2 with h | h
      · have : x = 1 := by omega
        subst this
        rw [show Nat.log2 1 = 0 by decide] at hd
        omega
      · exact h
    have hl : (x / 2).log2 = d := by
      have h := Nat.log2_def x
      rw [if_pos hx] at h
      omega
    have ih := top_l d (x / 2) (n + 1) hl (by omega) (by omega) (by omega)
    have hu : IntKind.u64.wrap (Int.tdiv (x : Int) 2) = ((x / 2 : Nat) : Int) := by
      rw [show Int.tdiv (x : Int) 2 = ((x / 2 : Nat) : Int) from rfl]; exact u64w (by omega)
    have hw : RowKit.wrap64 ((n : Int) + 1) = ((n + 1 : Nat) : Int) := Ev0.w1 (by omega)
    refine Ev0.Ev_next ?_
    have e : ∀ k, D.corporaref02_Top.l0 (k + 1) (x : Int) (n : Int) = D.corporaref02_Top.l0 k ((x / 2 : Nat) : Int) ((n + 1 : Nat) : Int) := fun k => by
      rw [D.corporaref02_Top.l0, if_pos (by clear hw hu; omega), hu, hw]
    rw [funext e, show n + (d + 1) = n + 1 + d by omega]
    exact ih
theorem top_ev (v : Nat) (h0 : v ≠ 0) (hv : v < 18446744073709551616) : Ev (fun k => D.corporaref02_Top.f k (v : Int)) ((v.log2 : Nat) : Int) := by
  unfold D.corporaref02_Top.f
  have hl := log2_small h0 (show v < 2 ^ 64 from hv)
  have h := top_l v.log2 v 0 rfl (by omega) hv (by omega)
  rwa [Nat.zero_add] at h

theorem gamma_ev (v : Nat) (h0 : v ≠ 0) (hv : v < 18446744073709551616) : Ev (fun k => D2.corporaref02_Write.f k 2 (v : Int) 0) (gamma v, true) := by
  have hl := log2_small h0 (show v < 2 ^ 64 from hv)
  refine Ev0.Ev_next ?_
  have c1 : ¬ ((2 : Int) = 0) := by decide
  have c2 : ¬ ((2 : Int) = 1) := by decide
  have c3 : ¬ ((v : Int) = 0) := by omega
  simp only [D2.corporaref02_Write.f, if_neg c1, if_neg c2, if_neg c3]
  refine Ev.bind (top_ev v h0 hv) ?_
  have c4 : (0 : Int) ≤ ((v.log2 : Nat) : Int) := by omega
  have c5 : (((v.log2 : Nat) : Int)).toNat ≤ 281474976710656 := by omega
  simp only [if_pos trivial, if_pos c4, if_pos c5, Option.bind_some]
  have hw : RowKit.wrap64 (((v.log2 : Nat) : Int) + 1) = ((v.log2 + 1 : Nat) : Int) := Ev0.w1 (by omega)
  rw [hw]
  refine Ev.bind (low_ev v (v.log2 + 1) hv (by omega)) ?_
  have c6 : (List.replicate (((v.log2 : Nat) : Int)).toNat false).length + (low v (v.log2 + 1)).length < 140737488355328 := by
    rw [List.length_replicate, low_len]; clear hw; omega
  simp only [if_pos c6]
  rw [show (((v.log2 : Nat) : Int)).toNat = v.log2 from Int.toNat_natCast _]
  exact Ev.now _
theorem write_ev (v : Nat) (h0 : v ≠ 0) (hv : v < 18446744073709551616) : Ev (fun k => D2.corporaref02_Write.f k 3 (v : Int) 0) (delta v, true) := by
  have hl := log2_small h0 (show v < 2 ^ 64 from hv)
  refine Ev0.Ev_next ?_
  have c1 : ¬ ((3 : Int) = 0) := by decide
  have c2 : ¬ ((3 : Int) = 1) := by decide
  have c3 : ¬ ((v : Int) = 0) := by omega
  have c4 : ¬ ((3 : Int) = 2) := by decide
  simp only [D2.corporaref02_Write.f, if_neg c1, if_neg c2, if_neg c3]
  refine Ev.bind (top_ev v h0 hv) ?_
  simp only [if_neg c4]
  have hw : RowKit.wrap64 (((v.log2 : Nat) : Int) + 1) = ((v.log2 + 1 : Nat) : Int) := Ev0.w1 (by omega)
  have hu : IntKind.u64.wrap ((v.log2 + 1 : Nat) : Int) = ((v.log2 + 1 : Nat) : Int) := u64w (by omega)
  rw [hw, hu]
  refine Ev.bind (gamma_ev (v.log2 + 1) (by omega) (by omega)) ?_
  refine Ev.bind (low_ev v v.log2 hv (by omega)) ?_
  have hg : (gamma (v.log2 + 1)).length ≤ 200 := by
    have h6 : (v.log2 + 1).log2 ≤ 63 := log2_small (by omega) (by have : (64 : Nat) < 2 ^ 64 := by decide
                                                                  clear hw hu; omega)
    unfold gamma
    rw [List.length_append, List.length_replicate, low_len]; clear hw hu; omega
  have c6 : (gamma (v.log2 + 1)).length + (low v v.log2).length < 140737488355328 := by rw [low_len]; clear hw hu; omega
  simp only [if_pos c6]
  exact Ev.now _

/-! number, zeros -/
theorem num_l (bl : List Bool) (hl : bl.length ≤ 64) : ∀ (d i : Nat), i + d = bl.length →
    Ev (fun k => D.corporaref02_number.l0 k ((num (bl.take i) : Nat) : Int) bl (bl.length : Int) (i : Int)) ((num bl : Nat) : Int)
  | 0, i, hd => by
    obtain rfl : i = bl.length := by omega
    refine Ev0.Ev_next ?_
    have e : ∀ k, D.corporaref02_number.l0 (k + 1) ((num (bl.take bl.length) : Nat) : Int) bl (bl.length : Int) (bl.length : Int) = some ((num bl : Nat) : Int) := fun k => by
      rw [D.corporaref02_number.l0, if_neg (by omega), List.take_length]
    rw [funext e]
    exact Ev.now _
  | d + 1, i, hd => by
    have ih := num_l bl hl d (i + 1) (by omega)
    have hlt : i < bl.length := by omega
    have hlen : (bl.take i).length = i := by rw [List.length_take]; omega
    have hv : num (bl.take i) < 2 ^ i := by have := num_lt (bl.take i); rwa [hlen] at this
    have hv63 : num (bl.take i) < 9223372036854775808 := Nat.lt_of_lt_of_le hv (show 2 ^ i ≤ 2 ^ 63 from Nat.pow_le_pow_right (by omega) (by omega))
    have hn : num (bl.take (i + 1)) = 2 * num (bl.take i) + (bl.getD i false).toNat := by
      rw [List.take_add_one, List.getElem?_eq_getElem hlt, Option.toList_some, num_snoc, List.getD_eq_getElem?_getD, List.getElem?_eq_getElem hlt]; rfl
    have hrd : rdOf false bl (i : Int) = bl.getD i false := rfl
    have hw : RowKit.wrap64 ((i : Int) + 1) = ((i + 1 : Nat) : Int) := Ev0.w1 (by omega)
    have HW := Lib.hid hw
    clear hw
    obtain ⟨x, hx⟩ : ∃ x, num (bl.take i) = x := ⟨_, rfl⟩
    rw [hx] at hv63 hn
    rw [hn] at ih
    have hu : IntKind.u64.wrap ((x : Int) * 2) = ((2 * x : Nat) : Int) := by rw [show (x : Int) * 2 = ((2 * x : Nat) : Int) by omega]; exact u64w (by omega)
    have hu2 : IntKind.u64.wrap (((2 * x : Nat) : Int) + 1) = ((2 * x + 1 : Nat) : Int) := by rw [show ((2 * x : Nat) : Int) + 1 = ((2 * x + 1 : Nat) : Int) by omega]; exact u64w (by omega)
    rw [hx]
    refine Ev0.Ev_next ?_
    have e : ∀ k, D.corporaref02_number.l0 (k + 1) (x : Int) bl (bl.length : Int) (i : Int) = D.corporaref02_number.l0 k ((2 * x + (bl.getD i false).toNat : Nat) : Int) bl (bl.length : Int) ((i + 1 : Nat) : Int) := fun k => by
      rw [D.corporaref02_number.l0, if_pos (by clear hu hu2; omega), if_pos (by clear hu hu2; omega), if_pos (by clear hu hu2; omega), hrd, HW.out, hu, hu2]
      cases bl.getD i false
      · rw [if_neg (by decide)]; rfl
      · rw [if_pos rfl]; rfl
    rw [funext e]
    exact ih
theorem num_ev (bl : List Bool) (hl : bl.length ≤ 64) : Ev (fun k => D.corporaref02_number.f k bl) ((num bl : Nat) : Int) := by
  unfold D.corporaref02_number.f
  exact num_l bl hl bl.length 0 (by omega)

theorem zeros_step (bl : List Bool) (p n : Nat) (hp : p ≤ bl.length) (hl : bl.length < 1000000000) (hn : n ≤ zc (bl.drop p)) (h63 : n ≤ 63)
    (hrec : n < 63 → n + 1 ≤ zc (bl.drop p) → Ev (fun k => D.corporaref02_zeros.l0 k bl (p : Int) 63 ((n + 1 : Nat) : Int)) (((zF bl p).1 : Int), (zF bl p).2)) :
    Ev (fun k => D.corporaref02_zeros.l0 k bl (p : Int) 63 (n : Int)) (((zF bl p).1 : Int), (zF bl p).2) := by
  have hzl := zc_le (bl.drop p)
  rw [List.length_drop] at hzl
  have hg : ∀ j, (bl.drop p).getD j false = bl.getD (p + j) false := fun j => by
    rw [List.getD_eq_getElem?_getD, List.getElem?_drop, ← List.getD_eq_getElem?_getD]
  have HW : Hid (RowKit.wrap64 ((p : Int) + (n : Int)) = ((p + n : Nat) : Int)) := Lib.hid (wsmall' (by omega) (by omega) (by omega))
  have HW1 : Hid (RowKit.wrap64 ((n : Int) + 1) = ((n + 1 : Nat) : Int)) := Lib.hid (Ev0.w1 (by omega))
  have hrd : rdOf false bl ((p + n : Nat) : Int) = bl.getD (p + n) false := rfl
  refine Ev0.Ev_next ?_
  by_cases hin : p + n < bl.length
  · have e : ∀ k, D.corporaref02_zeros.l0 (k + 1) bl (p : Int) 63 (n : Int) = D.corporaref02_zeros.j1 k bl (p : Int) 63 (n : Int) (!(bl.getD (p + n) false)) := fun k => by
      rw [D.corporaref02_zeros.l0, HW.out, if_pos (by omega), if_pos (by omega), hrd]
    rw [funext e]
    refine Ev0.Ev_next ?_
    rcases Nat.lt_or_ge n (zc (bl.drop p)) with hlt | hge
    · have hb : bl.getD (p + n) false = false := by rw [← hg]; exact zc_zero _ _ hlt
      by_cases h64 : n < 63
      · have e2 : ∀ k, D.corporaref02_zeros.j1 (k + 1) bl (p : Int) 63 (n : Int) (!(bl.getD (p + n) false)) = D.corporaref02_zeros.l0 k bl (p : Int) 63 ((n + 1 : Nat) : Int) := fun k => by
          rw [hb, D.corporaref02_zeros.j1, if_pos (show (!false) = true from rfl), HW1.out, if_neg (by omega)]
        rw [funext e2]
        exact hrec h64 hlt
      · have e2 : ∀ k, D.corporaref02_zeros.j1 (k + 1) bl (p : Int) 63 (n : Int) (!(bl.getD (p + n) false)) = some (((zF bl p).1 : Int), (zF bl p).2) := fun k => by
          rw [hb, D.corporaref02_zeros.j1, if_pos (show (!false) = true from rfl), HW1.out, if_pos (by omega)]
          unfold zF
          rw [if_pos (by omega)]
          rfl
        rw [funext e2]
        exact Ev.now _
    · have hz : zc (bl.drop p) = n := by omega
      have hb : bl.getD (p + n) false = true := by rw [← hg, ← hz]; exact zc_one _ (by rw [List.length_drop]; omega)
      have e2 : ∀ k, D.corporaref02_zeros.j1 (k + 1) bl (p : Int) 63 (n : Int) (!(bl.getD (p + n) false)) = some (((zF bl p).1 : Int), (zF bl p).2) := fun k => by
        rw [hb, D.corporaref02_zeros.j1, if_neg (by decide), HW.out, if_neg (by omega)]
        unfold zF
        rw [hz, if_neg (by omega), if_neg (by omega)]
      rw [funext e2]
      exact Ev.now _
  · have hz : zc (bl.drop p) = n := by omega
    have e : ∀ k, D.corporaref02_zeros.l0 (k + 1) bl (p : Int) 63 (n : Int) = D.corporaref02_zeros.j1 k bl (p : Int) 63 (n : Int) false := fun k => by
      rw [D.corporaref02_zeros.l0, HW.out, if_neg (by omega)]
    rw [funext e]
    refine Ev0.Ev_next ?_
    have e2 : ∀ k, D.corporaref02_zeros.j1 (k + 1) bl (p : Int) 63 (n : Int) false = some (((zF bl p).1 : Int), (zF bl p).2) := fun k => by
      rw [D.corporaref02_zeros.j1, if_neg (by decide), HW.out, if_pos (by omega)]
      unfold zF
      rw [hz, if_neg (by omega), if_pos (by omega)]
      rfl
    rw [funext e2]
    exact Ev.now _
theorem zeros_l (bl : List Bool) (p : Nat) (hp : p ≤ bl.length) (hl : bl.length < 1000000000) : ∀ (d n : Nat), n + d = 63 → n ≤ zc (bl.drop p) →
    Ev (fun k => D.corporaref02_zeros.l0 k bl (p : Int) 63 (n : Int)) (((zF bl p).1 : Int), (zF bl p).2)
  | 0, n, hd, hn => zeros_step bl p n hp hl hn (by omega) (fun h _ => absurd h (by omega))
  | d + 1, n, hd, hn => zeros_step bl p n hp hl hn (by omega) (fun _ h => zeros_l bl p hp hl d (n + 1) (by omega) h)
theorem zeros_ev (bl : List Bool) (p : Nat) (hp : p ≤ bl.length) (hl : bl.length < 1000000000) : Ev (fun k => D.corporaref02_zeros.f k bl (p : Int) 63) (((zF bl p).1 : Int), (zF bl p).2) := by
  unfold D.corporaref02_zeros.f
  exact zeros_l bl p hp hl 63 0 rfl (Nat.zero_le _)

/-! Pack, Unpack -/
theorem pow_bit (r : Nat) (hr : r < 8) : (128 : Int) / 2 ^ r = ((2 ^ (7 - r) : Nat) : Int) := by
  have : r = 0 ∨ r = 1 ∨ r = 2 ∨ r = 3 ∨ r = 4 ∨ r = 5 ∨ r = 6 ∨ r = 7 := by omega
  rcases this with rfl | rfl | rfl | rfl | rfl | rfl | rfl | rfl <;> decide
theorem shr8 (r : Nat) (hr : r < 8) : shr .u8 128 (r : Int) = ((2 ^ (7 - r) : Nat) : Int) := by
  unfold shr
  rw [Int.toNat_natCast, Nat.min_eq_left (show r ≤ IntKind.u8.bits by show r ≤ 8; omega), pow_bit r hr]
theorem bit_table : ∀ (y : Fin 256) (r : Fin 8), ((y.val &&& 2 ^ (7 - r.val)) != 0) = (y.val / 2 ^ (7 - r.val) % 2 == 1) := by decide +kernel
theorem bit8 (y r : Nat) (hy : y < 256) (hr : r < 8) : (Go.bits .and .u8 (y : Int) (shr .u8 128 (r : Int)) != 0) = (y / 2 ^ (7 - r) % 2 == 1) := by
  have hp : 2 ^ (7 - r) < 256 := Nat.pow_lt_pow_right (m := 7 - r) (n := 8) (by omega) (by omega)
  rw [shr8 r hr, u8_and_nat _ _ hy hp, ← bit_table ⟨y, hy⟩ ⟨r, hr⟩]
  show ((((y &&& 2 ^ (7 - r)) : Nat) : Int) != 0) = ((y &&& 2 ^ (7 - r)) != 0)
  generalize y &&& 2 ^ (7 - r) = z
  cases z with
  | zero => rfl
  | succ z => rw [bne_iff_ne.mpr (by omega), bne_iff_ne.mpr (by omega)]
theorem unpack_l (b : List UInt8) (n : Nat) (hn : n ≤ 8 * b.length) (hb : b.length < 1000000000) : ∀ (d i : Nat), i + d = n →
    Ev (fun k => D.corporaref02_Unpack.l0 k (ints b) (n : Int) (unpack b i) (i : Int)) (unpack b n)
  | 0, i, hd => by
    obtain rfl : i = n := by omega
    refine Ev0.Ev_next ?_
    have e : ∀ k, D.corporaref02_Unpack.l0 (k + 1) (ints b) (i : Int) (unpack b i) (i : Int) = some (unpack b i) := fun k => by
      rw [D.corporaref02_Unpack.l0, if_neg (by omega)]
    rw [funext e]
    exact Ev.now _
  | d + 1, i, hd => by
    have ih := unpack_l b n hn hb d (i + 1) (by omega)
    have hs : unpack b (i + 1) = unpack b i ++ [bitAt b i] := by
      unfold unpack; rw [List.range_succ, List.map_append]; rfl
    have hq : RowKit.wrap64 (Int.tdiv (i : Int) 8) = ((i / 8 : Nat) : Int) := by
      rw [show Int.tdiv (i : Int) 8 = ((i / 8 : Nat) : Int) from rfl]; exact wsmall' rfl (by omega) (by omega)
    have HQ := Lib.hid hq
    clear hq
    have hr : IntKind.u64.wrap (Int.tmod (i : Int) 8) = ((i % 8 : Nat) : Int) := by
      rw [show Int.tmod (i : Int) 8 = ((i % 8 : Nat) : Int) from rfl]; exact u64w (by omega)
    have HR := Lib.hid hr
    clear hr
    have HW : Hid (RowKit.wrap64 ((i : Int) + 1) = ((i + 1 : Nat) : Int)) := Lib.hid (Ev0.w1 (by omega))
    have hbit := bit8 (b.getD (i / 8) 0).toNat (i % 8) (b.getD (i / 8) 0).toNat_lt (by omega)
    have hrd : rd (ints b) ((i / 8 : Nat) : Int) = (((b.getD (i / 8) 0).toNat : Nat) : Int) := by rw [Ev0.rd_nat, at_ints]
    have hlu := unpack_len b i
    refine Ev0.Ev_next ?_
    have e : ∀ k, D.corporaref02_Unpack.l0 (k + 1) (ints b) (n : Int) (unpack b i) (i : Int) = D.corporaref02_Unpack.l0 k (ints b) (n : Int) (unpack b (i + 1)) ((i + 1 : Nat) : Int) := fun k => by
      rw [D.corporaref02_Unpack.l0, if_pos (by omega), HQ.out, if_pos (by omega), if_pos (by rw [ints_len]; omega), HR.out, if_pos (by omega), if_pos (by omega), hrd, hbit, HW.out, hs]
      rfl
    rw [funext e]
    exact ih
theorem unpack_ev (b : List UInt8) (n : Nat) (hn : n ≤ 8 * b.length) (hb : b.length < 1000000000) : Ev (fun k => D.corporaref02_Unpack.f k (ints b) (n : Int)) (unpack b n) := by
  unfold D.corporaref02_Unpack.f
  exact unpack_l b n hn hb n 0 (by omega)

/-- The bytes of the first i bits, with room for all. -/
def padk (bl : List Bool) (i : Nat) : List UInt8 := pack (bl.take i) ++ List.replicate ((bl.length + 7) / 8 - (i + 7) / 8) 0
theorem padk_zero (bl : List Bool) : padk bl 0 = List.replicate ((bl.length + 7) / 8) 0 := by
  unfold padk; rw [List.take_zero, pack_nil]; rfl
theorem padk_all (bl : List Bool) : padk bl bl.length = pack bl := by
  unfold padk; rw [List.take_length, Nat.sub_self]; simp
theorem padk_room (bl : List Bool) (i : Nat) (hi : i < bl.length) : padk bl i = room (bl.take i) ++ List.replicate ((bl.length + 7) / 8 - (i / 8 + 1)) 0 := by
  have hl : (bl.take i).length = i := by rw [List.length_take]; omega
  unfold padk room
  rw [hl]
  by_cases h8 : i % 8 = 0
  · rw [if_pos h8, List.append_assoc]
    congr 1
    rw [show (bl.length + 7) / 8 - (i + 7) / 8 = 1 + ((bl.length + 7) / 8 - (i / 8 + 1)) by omega, ← List.replicate_append_replicate]
    rfl
  · rw [if_neg h8, show (i + 7) / 8 = i / 8 + 1 by omega]
theorem padk_len (bl : List Bool) (i : Nat) (hi : i ≤ bl.length) : (padk bl i).length = (bl.length + 7) / 8 := by
  unfold padk
  rw [List.length_append, pack_len, List.length_replicate, List.length_take]; omega
theorem padk_next (bl : List Bool) (i : Nat) (hi : i < bl.length) : padk bl (i + 1) = if bl.getD i false = true then (padk bl i).set (i / 8) (UInt8.ofNat (((padk bl i).getD (i / 8) 0).toNat ||| 2 ^ (7 - i % 8))) else padk bl i := by
  have hl : (bl.take i).length = i := by rw [List.length_take]; omega
  have ht : bl.take (i + 1) = bl.take i ++ [bl.getD i false] := by
    rw [List.take_succ_eq_append_getElem hi, List.getD_eq_getElem?_getD, List.getElem?_eq_getElem hi]; rfl
  have hrl := room_len (bl.take i)
  rw [hl] at hrl
  rw [padk_room bl i hi]
  conv => lhs; unfold padk
  rw [ht, show (i + 1 + 7) / 8 = i / 8 + 1 by omega]
  cases bl.getD i false
  · rw [if_neg (by decide), pack_false]
  · rw [if_pos rfl, pack_snoc, hl, List.set_append_left _ _ (by omega), Bool.toNat_true, Nat.one_mul, List.getD_eq_getElem?_getD, List.getD_eq_getElem?_getD, List.getElem?_append_left (by omega)]
theorem pack_l (bl : List Bool) (hl : bl.length < 1000000000) : ∀ (d i : Nat), i + d = bl.length →
    Ev (fun k => D.corporaref02_Pack.l0 k (ints (padk bl i)) bl (bl.length : Int) (i : Int)) (ints (pack bl))
  | 0, i, hd => by
    obtain rfl : i = bl.length := by omega
    refine Ev0.Ev_next ?_
    have e : ∀ k, D.corporaref02_Pack.l0 (k + 1) (ints (padk bl bl.length)) bl (bl.length : Int) (bl.length : Int) = some (ints (pack bl)) := fun k => by
      rw [D.corporaref02_Pack.l0, if_neg (by omega), padk_all]
    rw [funext e]
    exact Ev.now _
  | d + 1, i, hd => by
    have hlt : i < bl.length := by omega
    have ih := pack_l bl hl d (i + 1) (by omega)
    have hnx := padk_next bl i hlt
    have hpl := padk_len bl i (by omega)
    have HQ : Hid (RowKit.wrap64 (Int.tdiv (i : Int) 8) = ((i / 8 : Nat) : Int)) := Lib.hid (by
      rw [show Int.tdiv (i : Int) 8 = ((i / 8 : Nat) : Int) from rfl]; exact wsmall' rfl (by omega) (by omega))
    have HR : Hid (IntKind.u64.wrap (Int.tmod (i : Int) 8) = ((i % 8 : Nat) : Int)) := Lib.hid (by
      rw [show Int.tmod (i : Int) 8 = ((i % 8 : Nat) : Int) from rfl]; exact u64w (by omega))
    have HW : Hid (RowKit.wrap64 ((i : Int) + 1) = ((i + 1 : Nat) : Int)) := Lib.hid (Ev0.w1 (by omega))
    have hrdb : rdOf false bl (i : Int) = bl.getD i false := rfl
    refine Ev0.Ev_next ?_
    by_cases hb : bl.getD i false = true
    · rw [if_pos hb] at hnx
      obtain ⟨L, hL⟩ : ∃ L, padk bl i = L := ⟨_, rfl⟩
      rw [hL] at hnx hpl
      rw [hL]
      have hrd : rd (ints L) ((i / 8 : Nat) : Int) = (((L.getD (i / 8) 0).toNat : Nat) : Int) := by rw [Ev0.rd_nat, at_ints]
      have hy := (L.getD (i / 8) 0).toNat_lt
      have hp8 : 2 ^ (7 - i % 8) < 256 := Nat.pow_lt_pow_right (m := 7 - i % 8) (n := 8) (by omega) (by omega)
      have hor : Go.bits .or .u8 (((L.getD (i / 8) 0).toNat : Nat) : Int) (shr .u8 128 ((i % 8 : Nat) : Int)) = (((L.getD (i / 8) 0).toNat ||| 2 ^ (7 - i % 8) : Nat) : Int) := by
        rw [shr8 _ (by omega), u8_or_nat _ _ hy hp8]
      have hz : ((L.getD (i / 8) 0).toNat ||| 2 ^ (7 - i % 8)) < 256 := Nat.or_lt_two_pow (n := 8) hy hp8
      have hset : (ints L).set (i / 8) (((L.getD (i / 8) 0).toNat ||| 2 ^ (7 - i % 8) : Nat) : Int) = ints (padk bl (i + 1)) := by
        rw [hnx]
        unfold ints
        rw [List.map_set, toNat_small hz]
      have e : ∀ k, D.corporaref02_Pack.l0 (k + 1) (ints L) bl (bl.length : Int) (i : Int) = D.corporaref02_Pack.l0 k (ints (padk bl (i + 1))) bl (bl.length : Int) ((i + 1 : Nat) : Int) := fun k => by
        rw [D.corporaref02_Pack.l0, if_pos (by omega), if_pos (by omega), if_pos (by omega), hrdb, if_pos hb, HQ.out, if_pos (by omega), if_pos (by rw [ints_len]; omega), HR.out, if_pos (by omega), hrd, hor, HW.out, Int.toNat_natCast, hset]
      rw [funext e]
      exact ih
    · rw [if_neg hb] at hnx
      have e : ∀ k, D.corporaref02_Pack.l0 (k + 1) (ints (padk bl i)) bl (bl.length : Int) (i : Int) = D.corporaref02_Pack.l0 k (ints (padk bl (i + 1))) bl (bl.length : Int) ((i + 1 : Nat) : Int) := fun k => by
        rw [D.corporaref02_Pack.l0, if_pos (by omega), if_pos (by omega), if_pos (by omega), hrdb, if_neg hb, HW.out, hnx]
      rw [funext e]
      exact ih
theorem pack_ev (bl : List Bool) (hl : bl.length < 1000000000) : Ev (fun k => D.corporaref02_Pack.f k bl) (ints (pack bl)) := by
  unfold D.corporaref02_Pack.f
  have hw7 : RowKit.wrap64 ((bl.length : Int) + 7) = ((bl.length + 7 : Nat) : Int) := wsmall' (by omega) (by omega) (by omega)
  have hq : RowKit.wrap64 (Int.tdiv ((bl.length + 7 : Nat) : Int) 8) = (((bl.length + 7) / 8 : Nat) : Int) := by
    rw [show Int.tdiv ((bl.length + 7 : Nat) : Int) 8 = (((bl.length + 7) / 8 : Nat) : Int) from rfl]; exact wsmall' rfl (by omega) (by omega)
  rw [hw7, hq]
  have c1 : (0 : Int) ≤ (((bl.length + 7) / 8 : Nat) : Int) := Int.natCast_nonneg _
  have c2 : ((((bl.length + 7) / 8 : Nat) : Int)).toNat ≤ 281474976710656 := by rw [Int.toNat_natCast]; clear hw7 hq; omega
  simp only [if_pos c1, if_pos c2]
  rw [Int.toNat_natCast]
  have h := pack_l bl hl bl.length 0 (by clear hw7 hq; omega)
  have e : ints (padk bl 0) = List.replicate ((bl.length + 7) / 8) 0 := by
    rw [padk_zero]; unfold ints; rw [List.map_replicate]; rfl
  rw [e] at h
  exact h
end Go.Proofs.Ytmeojlamadcedaa.Po
