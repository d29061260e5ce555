/- Decoding in plain Lean: numbers in groups of seven bits, read; the header; the gaps; what Decode answers.
   Conditions: those of the theorems. -/
import Derived.Test.YtmeojlamadcedaaPoPure
namespace Go.Proofs.Ytmeojlamadcedaa.Po

/-- The number at the head of bytes, behind i groups that make v. -/
def tkU : List UInt8 → Nat → Nat → Nat × Nat × Int
  | [], _, _ => (0, 0, 10)
  | c :: t, i, v =>
    if i = 9 ∧ c.toNat ≠ 1 then (0, 0, 9)
    else if c.toNat < 128 then (if c.toNat = 0 ∧ 0 < i then (0, 0, 9) else (v + c.toNat * 2 ^ (7 * i), i + 1, 0))
    else tkU t (i + 1) (v + (c.toNat % 128) * 2 ^ (7 * i))
theorem tkU_len : ∀ (b : List UInt8) (i v : Nat), (tkU b i v).2.2 = 0 → (tkU b i v).2.1 ≤ i + b.length
  | [], i, v, h => by simp [tkU] at h
  | c :: t, i, v, h => by
    rw [tkU] at h ⊢
    split at h
    · simp at h
    · split at h
      · split at h
        · simp at h
        · rename_i h1 h2 h3
          rw [if_neg h1, if_pos h2, if_neg h3]
          simp
      · rename_i h1 h2
        rw [if_neg h1, if_neg h2]
        have := tkU_len t (i + 1) _ h
        rw [List.length_cons]; omega
theorem toNat_small {x : Nat} (h : x < 256) : (UInt8.ofNat x).toNat = x := by rw [UInt8.toNat_ofNat', Nat.mod_eq_of_lt h]

/-- What uvar wrote is read again. -/
theorem tkU_uvF : ∀ (k x i v : Nat) (rest : List UInt8), k + i = 9 → x < 2 ^ (7 * k + 1) → (i ≠ 0 → x ≠ 0) →
    tkU (uvF k x ++ rest) i v = (v + x * 2 ^ (7 * i), i + (uvF k x).length, 0)
  | 0, x, i, v, rest, hk, hx, h0 => by
    obtain rfl : i = 9 := by omega
    have hx1 : x = 1 := by simp at hx; have := h0 (by decide); omega
    subst hx1
    rfl
  | k + 1, x, i, v, rest, hk, hx, h0 => by
    by_cases h128 : x < 128
    · have e : uvF (k + 1) x = [UInt8.ofNat x] := by rw [uvF, if_pos h128]
      rw [e, List.singleton_append, tkU, toNat_small (by omega), if_neg (by omega), if_pos h128, if_neg (by omega)]
      rfl
    · have e : uvF (k + 1) x = UInt8.ofNat (x % 128 + 128) :: uvF k (x / 128) := by rw [uvF, if_neg h128]
      have hd : x / 128 < 2 ^ (7 * k + 1) := by
        rw [show 7 * (k + 1) + 1 = (7 * k + 1) + 7 by omega, Nat.pow_add] at hx
        exact Nat.div_lt_of_lt_mul (by rw [Nat.mul_comm]; exact hx)
      have ih := tkU_uvF k (x / 128) (i + 1) (v + (x % 128) * 2 ^ (7 * i)) rest (by omega) hd (fun _ => by omega)
      rw [e, List.cons_append, tkU, toNat_small (by omega), if_neg (by omega), if_neg (by omega), show (x % 128 + 128) % 128 = x % 128 by omega, ih]
      simp only [Prod.mk.injEq, and_true, List.length_cons]
      refine ⟨?_, by omega⟩
      rw [show 7 * (i + 1) = 7 + 7 * i by omega, Nat.pow_add, Nat.add_assoc, ← Nat.mul_assoc, ← Nat.add_mul]
      congr 2
      omega
theorem tkU_uvar (x : Nat) (h : x < 2 ^ 64) (rest : List UInt8) : tkU (uvar x ++ rest) 0 0 = (x, (uvar x).length, 0) := by
  have := tkU_uvF 9 x 0 0 rest rfl h (fun h => absurd rfl h)
  simpa [uvar] using this


/-! The gaps -/
theorem delta_reads {l : List Int} (h : Valid l) (i : Nat) (hi : i < l.length) :
    deltaF (bits l l.length) (bits l i).length = (gap l i, (bits l (i + 1)).length, 0) := by
  obtain ⟨post, hp⟩ := bits_split l i l.length hi
  have hg := gap_le h i hi
  rw [hp, deltaF_code _ _ _ hg.1 (by have := hg.2.1; omega), bits, List.length_append]

/-- One gap more: the position in the bits, the last position, the positions so far. -/
def gnext (bl : List Bool) (s : Nat × Int × List Int) : Option (Nat × Int × List Int) :=
  if (deltaF bl s.1).2.2 ≠ 0 ∨ 2147483648 < (deltaF bl s.1).1 then none
  else some ((deltaF bl s.1).2.1, s.2.1 + ((deltaF bl s.1).1 : Nat), s.2.2 ++ [s.2.1 + ((deltaF bl s.1).1 : Nat)])
/-- What i gaps come to; none: a gap is not to be read, or is too great. -/
def gst (bl : List Bool) : Nat → Option (Nat × Int × List Int)
  | 0 => some (0, -1, [])
  | i + 1 => (gst bl i).bind (gnext bl)
theorem gst_none (bl : List Bool) (i : Nat) (h : gst bl i = none) : ∀ j, i ≤ j → gst bl j = none
  | 0, hj => by obtain rfl : i = 0 := by omega
                exact h
  | j + 1, hj => by
    rcases Nat.lt_or_ge i (j + 1) with h1 | h1
    · rw [gst, gst_none bl i h j (by omega)]; rfl
    · obtain rfl : i = j + 1 := by omega
      exact h
theorem deltaF_at (bl : List Bool) (pos : Nat) (h : (deltaF bl pos).2.2 = 0) : (deltaF bl pos).2.1 ≤ bl.length := by
  unfold deltaF at h ⊢
  split at h
  · rename_i h1; exact absurd h h1
  split at h
  · simp at h
  split at h
  · simp at h
  rename_i h1 h2 h3
  rw [if_neg h1, if_neg h2, if_neg h3]
  show _ + _ ≤ _
  omega
theorem gst_inv (bl : List Bool) : ∀ (i : Nat) (s : Nat × Int × List Int), gst bl i = some s → s.1 ≤ bl.length ∧ -1 ≤ s.2.1 ∧ s.2.1 ≤ 2147483648 * (i : Int) ∧ s.2.2.length = i
  | 0, s, h => by
    obtain rfl := Option.some.inj h
    exact ⟨Nat.zero_le _, Int.le_refl _, by decide, rfl⟩
  | i + 1, s, h => by
    rw [gst] at h
    obtain ⟨t, ht, hn⟩ := Option.bind_eq_some_iff.mp h
    have ih := gst_inv bl i t ht
    unfold gnext at hn
    split at hn
    · cases hn
    · rename_i hc
      obtain rfl := Option.some.inj hn
      have hd := deltaF_at bl t.1 (by omega)
      refine ⟨hd, ?_, ?_, ?_⟩
      · show -1 ≤ t.2.1 + ((deltaF bl t.1).1 : Nat); omega
      · show t.2.1 + ((deltaF bl t.1).1 : Nat) ≤ _; omega
      · show (t.2.2 ++ [_]).length = _
        rw [List.length_append, List.length_singleton]; omega
theorem gst_bad (bl : List Bool) (i : Nat) (s : Nat × Int × List Int) (h : gst bl i = some s) (hb : (deltaF bl s.1).2.2 ≠ 0 ∨ 2147483648 < (deltaF bl s.1).1) : gst bl (i + 1) = none := by
  rw [gst, h, Option.bind_some, gnext, if_pos hb]
theorem gst_good (bl : List Bool) (i : Nat) (s : Nat × Int × List Int) (h : gst bl i = some s) (hb : ¬ ((deltaF bl s.1).2.2 ≠ 0 ∨ 2147483648 < (deltaF bl s.1).1)) :
    gst bl (i + 1) = some ((deltaF bl s.1).2.1, s.2.1 + ((deltaF bl s.1).1 : Nat), s.2.2 ++ [s.2.1 + ((deltaF bl s.1).1 : Nat)]) := by
  rw [gst, h, Option.bind_some, gnext, if_neg hb]
theorem gst_bits {l : List Int} (h : Valid l) : ∀ i, i ≤ l.length → gst (bits l l.length) i = some ((bits l i).length, bef l i, l.take i)
  | 0, _ => rfl
  | i + 1, hi => by
    have hd := delta_reads h i (by omega)
    have hg := gap_le h i (by omega)
    have hb : ¬ ((deltaF (bits l l.length) (bits l i).length).2.2 ≠ 0 ∨ 2147483648 < (deltaF (bits l l.length) (bits l i).length).1) := by
      rw [hd]; show ¬ ((0 : Int) ≠ 0 ∨ 2147483648 < gap l i); have := hg.2.1; omega
    rw [gst_good _ i _ (gst_bits h i (by omega)) hb]
    dsimp only
    rw [hd]
    dsimp only
    rw [hg.2.2, List.take_succ_eq_append_getElem (by omega), List.getD_eq_getElem?_getD, List.getElem?_eq_getElem (by omega)]
    show some (_, _, _) = some (_, l.getD i 0, _)
    rw [List.getD_eq_getElem?_getD, List.getElem?_eq_getElem (by omega)]
    rfl

/-! The header -/
def hdr2 (n : Nat) (q : List UInt8) : Option (Nat × Nat × List UInt8) :=
  if (tkU q 0 0).2.2 ≠ 0 ∨ 8 * (q.drop (tkU q 0 0).2.1).length < (tkU q 0 0).1 then none
  else some (n, (tkU q 0 0).1, q.drop (tkU q 0 0).2.1)
/-- How many positions, how many bits, the bytes behind these numbers. -/
def hdr (p : List UInt8) : Option (Nat × Nat × List UInt8) :=
  if (tkU p 0 0).2.2 ≠ 0 ∨ 4096 < (tkU p 0 0).1 then none
  else hdr2 (tkU p 0 0).1 (p.drop (tkU p 0 0).2.1)
def gaps (n m : Nat) (r : List UInt8) : Option (List Int) := (gst (unpack r m) n).map fun s => s.2.2
def parse (p : List UInt8) : Option (List Int) := (hdr p).bind fun r => gaps r.1 r.2.1 r.2.2
def Opens (b : List UInt8) : Prop := ¬ b.length < 4 ∧ Ck.le4 (Ck.sum (b.take (b.length - 4))) = b.drop (b.length - 4)
instance (b : List UInt8) : Decidable (Opens b) := inferInstanceAs (Decidable (_ ∧ _))
def fin (b : List UInt8) (l : List Int) : Option (List Int) := if errF l = 0 ∧ Enc l = b then some l else none
/-- The positions whose encoding the bytes are. -/
def dec (b : List UInt8) : Option (List Int) := if Opens b then (parse (b.take (b.length - 4))).bind (fin b) else none

theorem dec_shut {b : List UInt8} (h : ¬ Opens b) : dec b = none := if_neg h
theorem dec_open {b : List UInt8} (h : Opens b) : dec b = (parse (b.take (b.length - 4))).bind (fin b) := if_pos h
theorem dec_some {b : List UInt8} {l : List Int} (h : dec b = some l) : errF l = 0 ∧ Enc l = b := by
  unfold dec at h
  split at h
  · obtain ⟨m, _, hm⟩ := Option.bind_eq_some_iff.mp h
    unfold fin at hm
    split at hm
    · rename_i hc
      obtain rfl := Option.some.inj hm
      exact hc
    · cases hm
  · cases h

theorem unpack_app (b r : List UInt8) (n : Nat) (h : n ≤ 8 * b.length) : unpack (b ++ r) n = unpack b n := by
  unfold unpack
  refine List.map_congr_left fun i hi => ?_
  have hi := List.mem_range.mp hi
  unfold bitAt
  rw [List.getD_eq_getElem?_getD, List.getElem?_append_left (by omega), ← List.getD_eq_getElem?_getD]

theorem parse_payload {l : List Int} (h : Valid l) (hl : l.length ≤ 4096) : parse (payload l) = some l := by
  have hbl := bits_len_le h l.length (Nat.le_refl _)
  have hpl := pack_len (bits l l.length)
  obtain ⟨B, hB⟩ : ∃ B, bits l l.length = B := ⟨_, rfl⟩
  obtain ⟨E, hE⟩ : ∃ E, entries l (cnt l.length - 1) = E := ⟨_, rfl⟩
  have hg := gst_bits h l.length (Nat.le_refl _)
  have e : payload l = uvar l.length ++ (uvar B.length ++ (pack B ++ E)) := by
    unfold payload; rw [hB, hE, List.append_assoc, List.append_assoc]
  rw [hB] at hbl hpl hg
  have t1 := tkU_uvar l.length (by have : (4096 : Nat) < 2 ^ 64 := by decide
                                   omega) (uvar B.length ++ (pack B ++ E))
  have t2 := tkU_uvar B.length (by have : (42 * 4096 : Nat) < 2 ^ 64 := by decide
                                   omega) (pack B ++ E)
  have c1 : ¬ ((0 : Int) ≠ 0 ∨ 4096 < l.length) := by omega
  have c2 : ¬ ((0 : Int) ≠ 0 ∨ 8 * (pack B ++ E).length < B.length) := by rw [List.length_append]; omega
  have hh : hdr (payload l) = some (l.length, B.length, pack B ++ E) := by
    unfold hdr
    rw [e, t1]
    dsimp only
    rw [if_neg c1, List.drop_left]
    unfold hdr2
    rw [t2]
    dsimp only
    rw [List.drop_left, if_neg c2]
  unfold parse
  rw [hh, Option.bind_some]
  unfold gaps
  dsimp only
  rw [unpack_app _ _ _ (by omega), unpack_pack, hg, Option.map_some, List.take_length]

theorem dec_enc {l : List Int} (h : errF l = 0) : dec (Enc l) = some l := by
  have hv := (errF_zero l).1 h
  have hS : (Ck.shutIt (payload l)).length = (payload l).length + 4 := Ck.shut_length _
  have hO : Opens (Enc l) := by
    unfold Opens Enc
    exact ⟨by rw [hS]; omega, (Ck.shut_good (payload l)).2⟩
  have e : (Enc l).take ((Enc l).length - 4) = payload l := by
    unfold Enc
    rw [hS, Nat.add_sub_cancel]
    unfold Ck.shutIt
    exact List.take_left
  rw [dec_open hO, e, parse_payload hv.2 hv.1, Option.bind_some]
  unfold fin
  rw [if_pos ⟨h, rfl⟩]
end Go.Proofs.Ytmeojlamadcedaa.Po
