/- Chapter 17 in plain Lean: bits, the delta code, packed bytes, position lists; what Build, Seek and Encode answer.
   Conditions: those of the theorems. -/
import Derived.Test.YtmeojlamadcedaaCkPure
namespace Go.Proofs.Ytmeojlamadcedaa.Po

/-- The n lowest bits of v, the most significant one first. -/
def low (v : Nat) : Nat → List Bool
  | 0 => []
  | n + 1 => v.testBit n :: low v n
theorem low_len (v : Nat) : ∀ n, (low v n).length = n
  | 0 => rfl
  | n + 1 => by simp [low, low_len v n]

/-- The number that bits stand for, behind the bits of a. -/
def nfrom (a : Nat) : List Bool → Nat
  | [] => a
  | b :: t => nfrom (2 * a + b.toNat) t
def num (l : List Bool) : Nat := nfrom 0 l
theorem nfrom_eq : ∀ (l : List Bool) (a : Nat), nfrom a l = a * 2 ^ l.length + num l
  | [], a => by simp [nfrom, num]
  | b :: t, a => by
    unfold num
    rw [nfrom, nfrom, nfrom_eq t, nfrom_eq t (2 * 0 + b.toNat), List.length_cons, Nat.pow_succ]
    generalize 2 ^ t.length = p
    rw [Nat.mul_zero, Nat.zero_add, Nat.add_mul, ← Nat.add_assoc]
    congr 2
    rw [Nat.mul_comm 2 a, Nat.mul_assoc, Nat.mul_comm 2 p]
theorem nfrom_append : ∀ (l m : List Bool) (a : Nat), nfrom a (l ++ m) = nfrom (nfrom a l) m
  | [], _, _ => rfl
  | b :: t, m, a => by rw [List.cons_append, nfrom, nfrom, nfrom_append t]
theorem num_append (l m : List Bool) : num (l ++ m) = num l * 2 ^ m.length + num m := by
  unfold num; rw [nfrom_append, nfrom_eq m]; rfl
theorem num_snoc (l : List Bool) (b : Bool) : num (l ++ [b]) = 2 * num l + b.toNat := by
  unfold num; rw [nfrom_append]; rfl
theorem num_nil : num [] = 0 := rfl
theorem num_one (b : Bool) : num [b] = b.toNat := by cases b <;> rfl
theorem num_lt (l : List Bool) : num l < 2 ^ l.length := by
  induction l with
  | nil => simp [num, nfrom]
  | cons b t ih =>
    have h := num_append [b] t
    rw [List.singleton_append] at h
    rw [h, num_one, List.length_cons, Nat.pow_succ]
    cases b <;> simp <;> omega
theorem num_low (v : Nat) : ∀ n, num (low v n) = v % 2 ^ n
  | 0 => by simp [low, num, nfrom, Nat.mod_one]
  | n + 1 => by
    have h := num_append [v.testBit n] (low v n)
    rw [List.singleton_append] at h
    rw [low, h, num_one, low_len, num_low v n, Nat.pow_succ, Nat.mod_mul, Nat.testBit_eq_decide_div_mod_eq, Nat.add_comm]
    congr 1
    rcases Nat.mod_two_eq_zero_or_one (v / 2 ^ n) with h | h <;> simp [h]

/-- How many bits 0 stand ahead of the first bit 1. -/
def zc : List Bool → Nat
  | [] => 0
  | true :: _ => 0
  | false :: t => zc t + 1
theorem zc_le : ∀ l : List Bool, zc l ≤ l.length
  | [] => Nat.le_refl _
  | true :: _ => Nat.zero_le _
  | false :: t => by have := zc_le t; simp [zc]; omega
theorem zc_zero : ∀ (l : List Bool) (i : Nat), i < zc l → l.getD i false = false
  | [], _, h => by simp [zc] at h
  | true :: _, _, h => by simp [zc] at h
  | false :: t, 0, _ => rfl
  | false :: t, i + 1, h => by simp [zc] at h; simpa using zc_zero t i h
theorem zc_one : ∀ (l : List Bool), zc l < l.length → l.getD (zc l) false = true
  | [], h => by simp at h
  | true :: _, _ => rfl
  | false :: t, h => by simp [zc] at h ⊢; simpa using zc_one t h
theorem zc_code : ∀ (n : Nat) (t : List Bool), zc (List.replicate n false ++ true :: t) = n
  | 0, _ => rfl
  | n + 1, t => by rw [List.replicate_succ, List.cons_append, zc, zc_code n t]

def gamma (v : Nat) : List Bool := List.replicate v.log2 false ++ low v (v.log2 + 1)
def delta (v : Nat) : List Bool := gamma (v.log2 + 1) ++ low v v.log2

theorem top_bit {v : Nat} (h : v ≠ 0) : v.testBit v.log2 = true := by
  rw [Nat.testBit_eq_decide_div_mod_eq]
  have h1 := Nat.log2_self_le h
  have h2 := @Nat.lt_log2_self v
  have : v / 2 ^ v.log2 = 1 := by
    rw [Nat.pow_succ] at h2
    apply Nat.div_eq_of_lt_le <;> omega
  simp [this]
theorem low_top {v : Nat} (h : v ≠ 0) : low v (v.log2 + 1) = true :: low v v.log2 := by rw [low, top_bit h]

/-- The number in the gamma code at a position, the position behind it, the error. -/
def gammaF (bl : List Bool) (at_ : Nat) : Nat × Nat × Int :=
  if 63 < zc (bl.drop at_) then (0, 0, 9) else if bl.length ≤ at_ + zc (bl.drop at_) then (0, 0, 10)
  else if bl.length < at_ + zc (bl.drop at_) + (zc (bl.drop at_) + 1) then (0, 0, 10)
  else (num ((bl.drop (at_ + zc (bl.drop at_))).take (zc (bl.drop at_) + 1)), at_ + 2 * zc (bl.drop at_) + 1, 0)
/-- The same for the delta code. -/
def deltaF (bl : List Bool) (pos : Nat) : Nat × Nat × Int :=
  if (gammaF bl pos).2.2 ≠ 0 then (0, pos, (gammaF bl pos).2.2)
  else if 64 < (gammaF bl pos).1 then (0, pos, 9)
  else if bl.length < (gammaF bl pos).2.1 + ((gammaF bl pos).1 - 1) then (0, pos, 10)
  else (2 ^ ((gammaF bl pos).1 - 1) + num ((bl.drop (gammaF bl pos).2.1).take ((gammaF bl pos).1 - 1)), (gammaF bl pos).2.1 + ((gammaF bl pos).1 - 1), 0)

theorem gammaF_pos (bl : List Bool) (at_ : Nat) (h : (gammaF bl at_).2.2 = 0) : 1 ≤ (gammaF bl at_).1 ∧ (gammaF bl at_).2.1 ≤ bl.length ∧ at_ ≤ (gammaF bl at_).2.1 := by
  unfold gammaF at h ⊢
  split at h
  · simp at h
  split at h
  · simp at h
  split at h
  · simp at h
  rename_i h1 h2 h3
  rw [if_neg h1, if_neg h2, if_neg h3]
  have hone := zc_one (bl.drop at_) (by rw [List.length_drop]; omega)
  rw [List.getD_eq_getElem?_getD, List.getElem?_drop] at hone
  generalize zc (bl.drop at_) = z at *
  refine ⟨?_, by show at_ + 2 * z + 1 ≤ _; omega, by show at_ ≤ at_ + 2 * z + 1; omega⟩
  show 1 ≤ num ((bl.drop (at_ + z)).take (z + 1))
  have hlt : at_ + z < bl.length := by omega
  rw [List.getElem?_eq_getElem hlt] at hone
  rw [List.drop_eq_getElem_cons hlt, List.take_succ_cons]
  have h := num_append [bl[at_ + z]] ((bl.drop (at_ + z + 1)).take z)
  rw [List.singleton_append] at h
  have e1 : bl[at_ + z] = true := hone
  rw [h, e1]
  have := Nat.two_pow_pos ((bl.drop (at_ + z + 1)).take z).length
  simp [num, nfrom] at *
  omega

theorem gammaF_code (pre post : List Bool) (v : Nat) (h0 : v ≠ 0) (h : v < 2 ^ 64) :
    gammaF (pre ++ (gamma v ++ post)) pre.length = (v, pre.length + (gamma v).length, 0) := by
  have hl : v.log2 ≤ 63 := by have := (Nat.log2_lt h0).2 h; omega
  have hd : (pre ++ (gamma v ++ post)).drop pre.length = gamma v ++ post := List.drop_left
  have hz : zc (gamma v ++ post) = v.log2 := by
    unfold gamma; rw [low_top h0, List.append_assoc, List.cons_append]; exact zc_code _ _
  have hlen : (gamma v).length = 2 * v.log2 + 1 := by unfold gamma; rw [List.length_append, List.length_replicate, low_len]; omega
  unfold gammaF
  rw [hd, hz]
  have hL : (pre ++ (gamma v ++ post)).length = pre.length + (gamma v).length + post.length := by simp [List.length_append]; omega
  rw [if_neg (show ¬ 63 < v.log2 by omega), if_neg (by rw [hL, hlen]; omega), if_neg (by rw [hL, hlen]; omega)]
  have e1 : ((pre ++ (gamma v ++ post)).drop (pre.length + v.log2)).take (v.log2 + 1) = low v (v.log2 + 1) := by
    rw [← List.drop_drop, hd]
    unfold gamma
    rw [List.append_assoc]
    have : (List.replicate v.log2 false ++ (low v (v.log2 + 1) ++ post)).drop v.log2 = low v (v.log2 + 1) ++ post := by
      conv => lhs; arg 1; rw [← List.length_replicate (n := v.log2) (a := false)]
      exact List.drop_left
    rw [this]
    conv => lhs; arg 1; rw [← low_len v (v.log2 + 1)]
    exact List.take_left
  rw [e1, num_low, Nat.mod_eq_of_lt Nat.lt_log2_self, hlen]
  rfl

theorem log2_small {v : Nat} (h0 : v ≠ 0) (h : v < 2 ^ 64) : v.log2 ≤ 63 := by have := (Nat.log2_lt h0).2 h; omega

theorem deltaF_code (pre post : List Bool) (v : Nat) (h0 : v ≠ 0) (h : v < 2 ^ 64) :
    deltaF (pre ++ (delta v ++ post)) pre.length = (v, pre.length + (delta v).length, 0) := by
  have hl := log2_small h0 h
  have hb : pre ++ (delta v ++ post) = pre ++ (gamma (v.log2 + 1) ++ (low v v.log2 ++ post)) := by unfold delta; rw [List.append_assoc]
  have hg := gammaF_code pre (low v v.log2 ++ post) (v.log2 + 1) (by omega) (by omega)
  rw [hb]
  unfold deltaF
  rw [hg]
  have hL : (pre ++ (gamma (v.log2 + 1) ++ (low v v.log2 ++ post))).length = pre.length + (gamma (v.log2 + 1)).length + v.log2 + post.length := by simp [List.length_append, low_len]; omega
  rw [if_neg (by simp), if_neg (show ¬ 64 < v.log2 + 1 by omega), if_neg (by rw [hL]; show ¬ _ < pre.length + (gamma (v.log2 + 1)).length + (v.log2 + 1 - 1); omega)]
  show (2 ^ (v.log2 + 1 - 1) + num (((pre ++ (gamma (v.log2 + 1) ++ (low v v.log2 ++ post))).drop (pre.length + (gamma (v.log2 + 1)).length)).take (v.log2 + 1 - 1)), pre.length + (gamma (v.log2 + 1)).length + (v.log2 + 1 - 1), (0 : Int)) = _
  rw [Nat.add_sub_cancel]
  have e1 : ((pre ++ (gamma (v.log2 + 1) ++ (low v v.log2 ++ post))).drop (pre.length + (gamma (v.log2 + 1)).length)).take v.log2 = low v v.log2 := by
    rw [← List.append_assoc, ← List.length_append, List.drop_left]
    conv => lhs; arg 1; rw [← low_len v v.log2]
    exact List.take_left
  rw [e1, num_low]
  have h1 := Nat.log2_self_le h0
  have h2 := @Nat.lt_log2_self v
  rw [Nat.pow_succ] at h2
  have e2 : v % 2 ^ v.log2 = v - 2 ^ v.log2 := by
    rw [Nat.mod_eq_sub_mod h1, Nat.mod_eq_of_lt (by omega)]
  rw [e2]
  simp only [Prod.mk.injEq, and_true]
  refine ⟨by omega, ?_⟩
  unfold delta
  rw [List.length_append, low_len]
  omega

/-! Packed bytes -/

/-- The byte of at most eight bits. -/
def byteOf (l : List Bool) : Nat := num l * 2 ^ (8 - l.length)
theorem byteOf_lt {l : List Bool} (h : l.length ≤ 8) : byteOf l < 256 := by
  unfold byteOf
  have h1 := num_lt l
  have h2 := Nat.mul_lt_mul_of_pos_right h1 (Nat.two_pow_pos (8 - l.length))
  have e : 2 ^ l.length * 2 ^ (8 - l.length) = 256 := by rw [← Nat.pow_add, show l.length + (8 - l.length) = 8 by omega]
  rw [e] at h2
  exact h2
def chunk (bs : List Bool) (j : Nat) : List Bool := (bs.drop (8 * j)).take 8
theorem chunk_len (bs : List Bool) (j : Nat) : (chunk bs j).length ≤ 8 := by unfold chunk; rw [List.length_take]; omega
def pack (bs : List Bool) : List UInt8 := (List.range ((bs.length + 7) / 8)).map fun j => UInt8.ofNat (byteOf (chunk bs j))
theorem pack_len (bs : List Bool) : (pack bs).length = (bs.length + 7) / 8 := by simp [pack]
theorem pack_at (bs : List Bool) (j : Nat) (h : j < (bs.length + 7) / 8) : ((pack bs).getD j 0).toNat = byteOf (chunk bs j) := by
  unfold pack
  rw [List.getD_eq_getElem?_getD, List.getElem?_map, List.getElem?_range h]
  show (UInt8.ofNat (byteOf (chunk bs j))).toNat = _
  rw [UInt8.toNat_ofNat', Nat.mod_eq_of_lt (byteOf_lt (chunk_len bs j))]

/-- Bit i of bytes. -/
def bitAt (b : List UInt8) (i : Nat) : Bool := (b.getD (i / 8) 0).toNat / 2 ^ (7 - i % 8) % 2 == 1
def unpack (b : List UInt8) (n : Nat) : List Bool := (List.range n).map (bitAt b)
theorem unpack_len (b : List UInt8) (n : Nat) : (unpack b n).length = n := by simp [unpack]
theorem unpack_at (b : List UInt8) (n i : Nat) (h : i < n) : (unpack b n).getD i false = bitAt b i := by
  unfold unpack
  rw [List.getD_eq_getElem?_getD, List.getElem?_map, List.getElem?_range h]; rfl

theorem byteOf_bit (l : List Bool) (r : Nat) (hr : r < l.length) (h : l.length ≤ 8) : (byteOf l / 2 ^ (7 - r) % 2 == 1) = l.getD r false := by
  have hs : l = l.take r ++ ([l[r]] ++ l.drop (r + 1)) := by
    rw [List.singleton_append, ← List.drop_eq_getElem_cons hr, List.take_append_drop]
  have hd : (l.drop (r + 1)).length = l.length - (r + 1) := List.length_drop
  have hn : num l = (2 * num (l.take r) + l[r].toNat) * 2 ^ (l.length - (r + 1)) + num (l.drop (r + 1)) := by
    conv => lhs; rw [hs]
    rw [← List.append_assoc, num_append, num_snoc, hd]
  have hlt := num_lt (l.drop (r + 1))
  rw [hd] at hlt
  unfold byteOf
  have e8 : 2 ^ (7 - r) = 2 ^ (l.length - (r + 1)) * 2 ^ (8 - l.length) := by rw [← Nat.pow_add]; congr 1; omega
  rw [e8, Nat.mul_div_mul_right _ _ (Nat.two_pow_pos _), hn]
  have e9 : ((2 * num (l.take r) + l[r].toNat) * 2 ^ (l.length - (r + 1)) + num (l.drop (r + 1))) / 2 ^ (l.length - (r + 1)) = 2 * num (l.take r) + l[r].toNat := by
    rw [Nat.add_comm, Nat.add_mul_div_right _ _ (Nat.two_pow_pos _), Nat.div_eq_of_lt hlt, Nat.zero_add]
  rw [e9, List.getD_eq_getElem?_getD, List.getElem?_eq_getElem hr]
  show _ = l[r]
  cases l[r] <;> simp <;> omega

theorem bitAt_pack (bs : List Bool) (i : Nat) (h : i < bs.length) : bitAt (pack bs) i = bs.getD i false := by
  have hj : i / 8 < (bs.length + 7) / 8 := by omega
  have hc : (chunk bs (i / 8)).length = min 8 (bs.length - 8 * (i / 8)) := by unfold chunk; rw [List.length_take, List.length_drop]
  unfold bitAt
  rw [pack_at bs _ hj, byteOf_bit _ (i % 8) (by rw [hc]; omega) (chunk_len _ _)]
  unfold chunk
  rw [List.getD_eq_getElem?_getD, List.getElem?_take_of_lt (by omega), List.getElem?_drop, List.getD_eq_getElem?_getD]
  congr 2; omega

theorem unpack_pack (bs : List Bool) : unpack (pack bs) bs.length = bs := by
  apply List.ext_getElem?
  intro i
  rcases Nat.lt_or_ge i bs.length with h | h
  · have h1 := unpack_at (pack bs) bs.length i h
    rw [bitAt_pack bs i h, List.getD_eq_getElem?_getD, List.getD_eq_getElem?_getD] at h1
    rw [List.getElem?_eq_getElem h] at h1 ⊢
    rw [List.getElem?_eq_getElem (by rw [unpack_len]; exact h)] at h1 ⊢
    exact congrArg some h1
  · rw [List.getElem?_eq_none h, List.getElem?_eq_none (by rw [unpack_len]; exact h)]

/-- The bytes with room for one bit more. -/
def room (bs : List Bool) : List UInt8 := if bs.length % 8 = 0 then pack bs ++ [0] else pack bs
theorem room_len (bs : List Bool) : (room bs).length = bs.length / 8 + 1 := by
  unfold room; split
  · rw [List.length_append, pack_len]; simp; omega
  · rw [pack_len]; omega

theorem chunk_old (bs : List Bool) (b : Bool) (j : Nat) (h : 8 * j + 8 ≤ bs.length) : chunk (bs ++ [b]) j = chunk bs j := by
  unfold chunk
  rw [List.drop_append_of_le_length (by omega), List.take_append_of_le_length (by rw [List.length_drop]; omega)]
theorem chunk_last (bs : List Bool) (b : Bool) : chunk (bs ++ [b]) (bs.length / 8) = chunk bs (bs.length / 8) ++ [b] := by
  unfold chunk
  rw [List.drop_append_of_le_length (by omega), List.take_of_length_le (by simp; omega), List.take_of_length_le (by rw [List.length_drop]; omega)]
theorem chunk_last_len (bs : List Bool) : (chunk bs (bs.length / 8)).length = bs.length % 8 := by
  unfold chunk; rw [List.length_take, List.length_drop]; omega

theorem byteOf_snoc (l : List Bool) (b : Bool) (h : l.length < 8) : byteOf (l ++ [b]) = byteOf l ||| (b.toNat * 2 ^ (7 - l.length)) := by
  unfold byteOf
  rw [num_snoc, List.length_append, List.length_singleton]
  have e1 : 8 - l.length = (7 - l.length) + 1 := by omega
  have e2 : 8 - (l.length + 1) = 7 - l.length := by omega
  rw [e2, e1, Nat.pow_succ]
  generalize 7 - l.length = k
  have h1 := Nat.shiftLeft_add_eq_or_of_lt (a := num l) (b := b.toNat * 2 ^ k) (i := k + 1) (by
    rw [Nat.pow_succ]; cases b <;> simp <;> have := Nat.two_pow_pos k <;> omega)
  rw [Nat.shiftLeft_eq, Nat.pow_succ] at h1
  rw [← h1, Nat.add_mul, Nat.mul_comm 2 (num l), Nat.mul_assoc, Nat.mul_comm 2 (2 ^ k)]

theorem pack_snoc (bs : List Bool) (b : Bool) : pack (bs ++ [b]) = (room bs).set (bs.length / 8) (UInt8.ofNat (((room bs).getD (bs.length / 8) 0).toNat ||| (b.toNat * 2 ^ (7 - bs.length % 8)))) := by
  have hlb : (bs ++ [b]).length = bs.length + 1 := by simp
  apply List.ext_getElem?
  intro i
  have hpl : (pack (bs ++ [b])).length = bs.length / 8 + 1 := by rw [pack_len, hlb]; omega
  have hrl := room_len bs
  rcases Nat.lt_or_ge i (bs.length / 8 + 1) with hi | hi
  · have hL : (pack (bs ++ [b]))[i]? = some (UInt8.ofNat (byteOf (chunk (bs ++ [b]) i))) := by
      unfold pack; rw [List.getElem?_map, List.getElem?_range (by rw [hlb]; omega)]; rfl
    rw [hL, List.getElem?_set]
    by_cases he : bs.length / 8 = i
    · subst he
      rw [if_pos rfl, if_pos (by rw [hrl]; omega), chunk_last, byteOf_snoc _ _ (by rw [chunk_last_len]; omega), chunk_last_len]
      congr 3
      unfold room
      split
      · rename_i h0
        have e : (pack bs).length = bs.length / 8 := by rw [pack_len]; omega
        rw [List.getD_eq_getElem?_getD, List.getElem?_append_right (by omega), e, Nat.sub_self]
        have : chunk bs (bs.length / 8) = [] := List.eq_nil_of_length_eq_zero (by rw [chunk_last_len]; exact h0)
        rw [this]; rfl
      · rename_i h0
        rw [pack_at bs _ (by omega)]
    · rw [if_neg he, chunk_old bs b i (by omega)]
      have hp : (pack bs)[i]? = some (UInt8.ofNat (byteOf (chunk bs i))) := by
        unfold pack; rw [List.getElem?_map, List.getElem?_range (by omega)]; rfl
      unfold room
      split
      · rw [List.getElem?_append_left (by rw [pack_len]; omega), hp]
      · rw [hp]
  · rw [List.getElem?_eq_none (by omega), List.getElem?_eq_none (by rw [List.length_set]; omega)]

theorem pack_false (bs : List Bool) : pack (bs ++ [false]) = room bs := by
  rw [pack_snoc]
  simp only [Bool.toNat_false, Nat.zero_mul, Nat.or_zero]
  have hrl := room_len bs
  have h : bs.length / 8 < (room bs).length := by omega
  rw [List.getD_eq_getElem?_getD, List.getElem?_eq_getElem h]
  show (room bs).set (bs.length / 8) (UInt8.ofNat ((room bs)[bs.length / 8]).toNat) = _
  rw [UInt8.ofNat_toNat, List.set_getElem_self]
theorem pack_nil : pack [] = [] := by decide

/-! Position lists -/

/-- The position ahead of index i. -/
def bef (l : List Int) : Nat → Int
  | 0 => -1
  | i + 1 => l.getD i 0
def gap (l : List Int) (i : Nat) : Nat := (l.getD i 0 - bef l i).toNat
/-- The bits of the first i gaps. -/
def bits (l : List Int) : Nat → List Bool
  | 0 => []
  | i + 1 => bits l i ++ delta (gap l i)
def skipAt (l : List Int) (k : Nat) : Int × Nat := (l.getD (16 * k) 0, (bits l (16 * k)).length)
def cnt (n : Nat) : Nat := (n + 15) / 16
/-- Position i of a list is in range and behind the one before. -/
def Fine (l : List Int) (i : Nat) : Prop := 0 ≤ l.getD i 0 ∧ l.getD i 0 ≤ 2147483647 ∧ bef l i < l.getD i 0
instance (l : List Int) (i : Nat) : Decidable (Fine l i) := inferInstanceAs (Decidable (_ ∧ _))
def Valid (l : List Int) : Prop := ∀ i, i < l.length → Fine l i

theorem bits_split (l : List Int) (i : Nat) : ∀ n, i < n → ∃ post, bits l n = bits l i ++ (delta (gap l i) ++ post)
  | 0, h => by omega
  | n + 1, h => by
    rcases Nat.lt_or_ge i n with h1 | h1
    · obtain ⟨post, hp⟩ := bits_split l i n h1
      exact ⟨post ++ delta (gap l n), by rw [bits, hp]; simp [List.append_assoc]⟩
    · obtain rfl : i = n := by omega
      exact ⟨[], by rw [bits, List.append_nil]⟩
theorem gap_ok {l : List Int} {i : Nat} (h : Fine l i) (hb : -1 ≤ bef l i) : gap l i ≠ 0 ∧ gap l i ≤ 2147483648 ∧ bef l i + (gap l i : Nat) = l.getD i 0 := by
  obtain ⟨h1, h2, h3⟩ := h
  unfold gap
  refine ⟨by omega, by omega, by omega⟩
theorem bef_ok {l : List Int} (h : Valid l) (i : Nat) (hi : i ≤ l.length) : -1 ≤ bef l i := by
  cases i with
  | zero => exact Int.le_refl _
  | succ i => have := (h i (by omega)).1; show -1 ≤ l.getD i 0; omega

theorem low_log_le (v : Nat) (h : v ≤ 2147483648) : v.log2 ≤ 31 := by
  rcases Nat.eq_zero_or_pos v with rfl | h0
  · decide
  · have := (Nat.log2_lt (n := v) (k := 32) (by omega)).2 (by omega); omega
theorem delta_len_le (v : Nat) (h : v ≤ 2147483648) : (delta v).length ≤ 42 := by
  have h1 := low_log_le v h
  unfold delta gamma
  simp only [List.length_append, List.length_replicate, low_len]
  have h2 : (v.log2 + 1).log2 ≤ 5 := by have := (Nat.log2_lt (n := v.log2 + 1) (k := 6) (by omega)).2 (by omega); omega
  omega
end Go.Proofs.Ytmeojlamadcedaa.Po

namespace Go.Proofs.Ytmeojlamadcedaa.Po

/-! The error of Build -/
/-- The error among the first i positions. -/
def chk (l : List Int) : Nat → Int
  | 0 => 0
  | i + 1 => if chk l i ≠ 0 then chk l i else if l.getD i 0 < 0 ∨ 2147483647 < l.getD i 0 then 8 else if l.getD i 0 ≤ bef l i then 6 else 0
theorem chk_mono (l : List Int) (i : Nat) (h : chk l i ≠ 0) : ∀ j, i ≤ j → chk l j = chk l i
  | 0, hj => by obtain rfl : i = 0 := by omega
                rfl
  | j + 1, hj => by
    rcases Nat.lt_or_ge i (j + 1) with h1 | h1
    · have h2 := chk_mono l i h j (by omega)
      rw [chk, h2, if_pos h]
    · obtain rfl : i = j + 1 := by omega
      rfl
theorem chk_fine (l : List Int) (i : Nat) (h : chk l i = 0) : chk l (i + 1) = 0 ↔ Fine l i := by
  have e : chk l (i + 1) = if l.getD i 0 < 0 ∨ 2147483647 < l.getD i 0 then 8 else if l.getD i 0 ≤ bef l i then 6 else 0 := by
    rw [chk]; exact if_neg (by simp [h])
  rw [e]
  unfold Fine
  by_cases c1 : l.getD i 0 < 0 ∨ 2147483647 < l.getD i 0
  · rw [if_pos c1]; constructor
    · intro h; cases h
    · intro h; omega
  · rw [if_neg c1]
    by_cases c2 : l.getD i 0 ≤ bef l i
    · rw [if_pos c2]; constructor
      · intro h; cases h
      · intro h; omega
    · rw [if_neg c2]; constructor
      · intro _; omega
      · intro _; rfl
theorem chk_range (l : List Int) (i : Nat) (h : chk l i = 0) (h1 : l.getD i 0 < 0 ∨ 2147483647 < l.getD i 0) : chk l (i + 1) = 8 := by
  have e : chk l (i + 1) = if l.getD i 0 < 0 ∨ 2147483647 < l.getD i 0 then 8 else if l.getD i 0 ≤ bef l i then 6 else 0 := by
    rw [chk]; exact if_neg (by simp [h])
  rw [e, if_pos h1]
theorem chk_order (l : List Int) (i : Nat) (h : chk l i = 0) (h1 : ¬ (l.getD i 0 < 0 ∨ 2147483647 < l.getD i 0)) (h2 : l.getD i 0 ≤ bef l i) : chk l (i + 1) = 6 := by
  have e : chk l (i + 1) = if l.getD i 0 < 0 ∨ 2147483647 < l.getD i 0 then 8 else if l.getD i 0 ≤ bef l i then 6 else 0 := by
    rw [chk]; exact if_neg (by simp [h])
  rw [e, if_neg h1, if_pos h2]
theorem chk_zero (l : List Int) : ∀ n, chk l n = 0 ↔ ∀ i, i < n → Fine l i
  | 0 => by simp [chk]
  | n + 1 => by
    constructor
    · intro h
      have h0 : chk l n = 0 := by
        by_cases h1 : chk l n = 0
        · exact h1
        · have h2 := chk_mono l n h1 (n + 1) (by omega)
          rw [h] at h2
          exact absurd h2.symm h1
      intro i hi
      rcases Nat.lt_or_ge i n with h1 | h1
      · exact (chk_zero l n).1 h0 i h1
      · obtain rfl : i = n := by omega
        exact (chk_fine l i h0).1 h
    · intro h
      exact (chk_fine l n ((chk_zero l n).2 fun i hi => h i (by omega))).2 (h n (by omega))
/-- The error of Build. -/
def errF (l : List Int) : Int := if 4096 < l.length then 2 else chk l l.length
theorem errF_zero (l : List Int) : errF l = 0 ↔ l.length ≤ 4096 ∧ Valid l := by
  unfold errF
  by_cases h : 4096 < l.length
  · rw [if_pos h]; constructor
    · intro h1; cases h1
    · intro h1; omega
  · rw [if_neg h, chk_zero]
    exact ⟨fun h1 => ⟨by omega, h1⟩, fun h1 => h1.2⟩

/-! Ascending lists -/
theorem valid_step {l : List Int} (h : Valid l) (i : Nat) (hi : i + 1 < l.length) : l.getD i 0 < l.getD (i + 1) 0 := (h (i + 1) hi).2.2
theorem valid_lt {l : List Int} (h : Valid l) (i : Nat) : ∀ j, i < j → j < l.length → l.getD i 0 < l.getD j 0
  | 0, h1, _ => by omega
  | j + 1, h1, h2 => by
    have h3 := valid_step h j h2
    rcases Nat.lt_or_ge i j with h4 | h4
    · have := valid_lt h i j h4 (by omega); omega
    · obtain rfl : i = j := by omega
      exact h3
theorem valid_le {l : List Int} (h : Valid l) {i j : Nat} (h1 : i ≤ j) (h2 : j < l.length) : l.getD i 0 ≤ l.getD j 0 := by
  rcases Nat.lt_or_ge i j with h3 | h3
  · have := valid_lt h i j h3 h2; omega
  · obtain rfl : i = j := by omega
    exact Int.le_refl _

/-- How many positions at the list's head are less than p. -/
def rk : List Int → Int → Nat
  | [], _ => 0
  | x :: t, p => if x < p then rk t p + 1 else 0
theorem rk_le : ∀ (l : List Int) (p : Int), rk l p ≤ l.length
  | [], _ => Nat.le_refl _
  | x :: t, p => by
    have := rk_le t p
    rw [rk, List.length_cons]; split <;> omega
theorem rk_eq : ∀ (l : List Int) (p : Int) (r : Nat), r ≤ l.length → (∀ i, i < r → l.getD i 0 < p) → (r < l.length → p ≤ l.getD r 0) → rk l p = r
  | [], p, r, h, _, _ => by simp at h; subst h; rfl
  | x :: t, p, 0, _, _, h2 => by
    have := h2 (by simp)
    rw [rk, if_neg (by simpa using this)]
  | x :: t, p, r + 1, h, h1, h2 => by
    have h0 := h1 0 (by omega)
    rw [rk, if_pos (by simpa using h0), rk_eq t p r (by simpa using h) (fun i hi => by have := h1 (i + 1) (by omega); simpa using this) (fun hr => by have := h2 (by simpa using hr); simpa using this)]
theorem rk_sorted {l : List Int} (h : Valid l) (p : Int) (r : Nat) (hr : r ≤ l.length) (h1 : 0 < r → l.getD (r - 1) 0 < p) (h2 : r < l.length → p ≤ l.getD r 0) : rk l p = r :=
  rk_eq l p r hr (fun i hi => by
    have := valid_le h (i := i) (j := r - 1) (by omega) (by omega)
    have := h1 (by omega)
    omega) h2
theorem rk_lt : ∀ (l : List Int) (p : Int) (i : Nat), i < rk l p → l.getD i 0 < p
  | [], _, _, h => by simp [rk] at h
  | x :: t, p, i, h => by
    rw [rk] at h
    split at h
    · rename_i hx
      cases i with
      | zero => simpa using hx
      | succ i => simpa using rk_lt t p i (by omega)
    · omega
theorem rk_ge : ∀ (l : List Int) (p : Int), rk l p < l.length → p ≤ l.getD (rk l p) 0
  | [], _, h => by simp at h
  | x :: t, p, h => by
    rw [rk] at h ⊢
    split at h
    · rename_i hx
      rw [if_pos hx]
      simpa using rk_ge t p (by simpa using h)
    · rename_i hx
      rw [if_neg hx]
      simp; omega
/-- The position that Seek finds. -/
def seekP (l : List Int) (p : Int) : Int := l.getD (rk l p) 0

/-! Numbers in groups of seven bits -/
def uvF : Nat → Nat → List UInt8
  | 0, v => [UInt8.ofNat v]
  | k + 1, v => if v < 128 then [UInt8.ofNat v] else UInt8.ofNat (v % 128 + 128) :: uvF k (v / 128)
def uvar (v : Nat) : List UInt8 := uvF 9 v
theorem uvF_len : ∀ k v, 1 ≤ (uvF k v).length ∧ (uvF k v).length ≤ k + 1
  | 0, v => by simp [uvF]
  | k + 1, v => by
    have := uvF_len k (v / 128)
    rw [uvF]; split <;> simp <;> omega
theorem uvar_len (v : Nat) : 1 ≤ (uvar v).length ∧ (uvar v).length ≤ 10 := uvF_len 9 v

/-! The encoding -/
/-- Entry k + 1 of the skip table. -/
def entry (l : List Int) (k : Nat) : List UInt8 :=
  uvar (l.getD (16 * (k + 1)) 0 - l.getD (16 * k) 0).toNat ++ uvar ((bits l (16 * (k + 1))).length - (bits l (16 * k)).length)
def entries (l : List Int) : Nat → List UInt8
  | 0 => []
  | k + 1 => entries l k ++ entry l k
def payload (l : List Int) : List UInt8 :=
  uvar l.length ++ uvar (bits l l.length).length ++ pack (bits l l.length) ++ entries l (cnt l.length - 1)
def Enc (l : List Int) : List UInt8 := Ck.shutIt (payload l)

theorem bits_len_mono (l : List Int) (i : Nat) : ∀ j, i ≤ j → (bits l i).length ≤ (bits l j).length
  | 0, h => by obtain rfl : i = 0 := by omega
               exact Nat.le_refl _
  | j + 1, h => by
    rcases Nat.lt_or_ge i (j + 1) with h1 | h1
    · have := bits_len_mono l i j (by omega)
      rw [bits, List.length_append]; omega
    · obtain rfl : i = j + 1 := by omega
      exact Nat.le_refl _
theorem gap_le {l : List Int} (h : Valid l) (i : Nat) (hi : i < l.length) : gap l i ≠ 0 ∧ gap l i ≤ 2147483648 ∧ bef l i + (gap l i : Nat) = l.getD i 0 :=
  gap_ok (h i hi) (bef_ok h i (by omega))
theorem bits_len_le {l : List Int} (h : Valid l) : ∀ i, i ≤ l.length → (bits l i).length ≤ 42 * i
  | 0, _ => Nat.le_refl _
  | i + 1, hi => by
    have h1 := bits_len_le h i (by omega)
    have h2 := delta_len_le (gap l i) (gap_le h i (by omega)).2.1
    rw [bits, List.length_append]; omega
theorem entries_len (l : List Int) : ∀ k, (entries l k).length ≤ 20 * k
  | 0 => Nat.le_refl _
  | k + 1 => by
    have := entries_len l k
    have h1 := uvar_len (l.getD (16 * (k + 1)) 0 - l.getD (16 * k) 0).toNat
    have h2 := uvar_len ((bits l (16 * (k + 1))).length - (bits l (16 * k)).length)
    rw [entries, entry, List.length_append, List.length_append]; omega
theorem payload_len {l : List Int} (h : Valid l) : (payload l).length ≤ 100 + 10 * l.length := by
  have h1 := uvar_len l.length
  have h2 := uvar_len (bits l l.length).length
  have h3 := bits_len_le h l.length (Nat.le_refl _)
  have h4 := entries_len l (cnt l.length - 1)
  unfold cnt at h4
  unfold payload cnt
  simp only [List.length_append, pack_len]
  omega

/-- The example of the document. -/
def ex : List Int := [0, 4, 5]
theorem ex_err : errF ex = 0 := by decide
theorem ex_enc : (Enc ex).length = 7 ∧ (Enc ex).take 3 = [3, 7, 178] := by decide
theorem ex_rk : rk ex 1 = 1 ∧ rk ex 5 = 2 := by decide
end Go.Proofs.Ytmeojlamadcedaa.Po
