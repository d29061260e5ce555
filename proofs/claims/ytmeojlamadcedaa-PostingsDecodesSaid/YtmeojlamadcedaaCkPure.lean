/- The plain mathematics of CRC-32C: a linear shift register over the natural numbers. No program in sight. -/
namespace Ck

def P : Nat := 0x82f63b78

/-- one step of the register -/
def st (v : Nat) : Nat := if v % 2 = 1 then (v / 2) ^^^ P else v / 2

def sts : Nat → Nat → Nat
  | 0, v => v
  | n + 1, v => sts n (st v)

theorem P_lt : P < 2 ^ 32 := by decide

theorem div2_xor (a b : Nat) : (a ^^^ b) / 2 = (a / 2) ^^^ (b / 2) := by
  apply Nat.eq_of_testBit_eq
  intro i
  simp [Nat.testBit_div_two, Nat.testBit_xor]

theorem mod2_xor (a b : Nat) : (a ^^^ b) % 2 = (a % 2 + b % 2) % 2 := by
  have h := Nat.testBit_xor a b 0
  simp only [Nat.testBit_zero] at h
  have ha := Nat.mod_two_eq_zero_or_one a
  have hb := Nat.mod_two_eq_zero_or_one b
  have hc := Nat.mod_two_eq_zero_or_one (a ^^^ b)
  rcases ha with ha | ha <;> rcases hb with hb | hb <;> rcases hc with hc | hc <;> simp_all

theorem xor_swap4 (a b p : Nat) : (a ^^^ p) ^^^ (b ^^^ p) = a ^^^ b := by
  apply Nat.eq_of_testBit_eq
  intro i
  simp only [Nat.testBit_xor]
  cases a.testBit i <;> cases b.testBit i <;> cases p.testBit i <;> rfl

theorem st_xor (a b : Nat) : st (a ^^^ b) = st a ^^^ st b := by
  unfold st
  rw [mod2_xor, div2_xor]
  have ha := Nat.mod_two_eq_zero_or_one a
  have hb := Nat.mod_two_eq_zero_or_one b
  rcases ha with ha | ha <;> rcases hb with hb | hb <;> simp only [ha, hb] <;> simp
  · rw [Nat.xor_assoc]
  · rw [Nat.xor_assoc, Nat.xor_assoc, Nat.xor_comm P]
  · rw [xor_swap4]

theorem st_zero : st 0 = 0 := by decide

theorem sts_zero : ∀ n, sts n 0 = 0
  | 0 => rfl
  | n + 1 => by rw [sts, st_zero, sts_zero n]

theorem sts_xor : ∀ n a b, sts n (a ^^^ b) = sts n a ^^^ sts n b
  | 0, _, _ => rfl
  | n + 1, a, b => by rw [sts, sts, sts, st_xor, sts_xor n]

theorem sts_add : ∀ m n v, sts (m + n) v = sts n (sts m v)
  | 0, n, v => by rw [Nat.zero_add]; rfl
  | m + 1, n, v => by rw [show m + 1 + n = (m + n) + 1 from by omega, sts, sts_add m n, sts]

theorem sts_succ (n v : Nat) : sts (n + 1) v = st (sts n v) := by rw [sts_add n 1 v]; rfl

theorem st_lt {v : Nat} (h : v < 2 ^ 32) : st v < 2 ^ 32 := by
  unfold st
  split
  · exact Nat.xor_lt_two_pow (by omega) P_lt
  · omega

theorem sts_lt : ∀ n v, v < 2 ^ 32 → sts n v < 2 ^ 32
  | 0, _, h => h
  | n + 1, _, h => sts_lt n _ (st_lt h)

theorem st_double (v : Nat) : st (v * 2) = v := by
  unfold st
  rw [if_neg (by omega)]; omega

theorem sts_double : ∀ n v, sts n (v * 2 ^ n) = v
  | 0, _ => by simp [sts]
  | n + 1, v => by
    rw [sts, show v * 2 ^ (n + 1) = (v * 2 ^ n) * 2 from by rw [Nat.pow_succ, Nat.mul_assoc], st_double, sts_double n]

theorem st_inj0 {v : Nat} (h : v < 2 ^ 32) (e : st v = 0) : v = 0 := by
  unfold st at e
  split at e
  · have : v / 2 = P := by
      have h2 : (v / 2 ^^^ P) ^^^ P = 0 ^^^ P := by rw [e]
      rw [Nat.xor_assoc, Nat.xor_self, Nat.xor_zero, Nat.zero_xor] at h2
      exact h2
    have hp : P = 2197175160 := rfl
    omega
  · omega

theorem sts_inj0 : ∀ n v, v < 2 ^ 32 → sts n v = 0 → v = 0
  | 0, _, _, e => e
  | n + 1, _, h, e => st_inj0 h (sts_inj0 n _ (st_lt h) e)

theorem xor_eq_zero {a b : Nat} (h : a ^^^ b = 0) : a = b := by
  have h2 : (a ^^^ b) ^^^ b = 0 ^^^ b := by rw [h]
  rwa [Nat.xor_assoc, Nat.xor_self, Nat.xor_zero, Nat.zero_xor] at h2

theorem sts_inj {n a b : Nat} (ha : a < 2 ^ 32) (hb : b < 2 ^ 32) (e : sts n a = sts n b) : a = b := by
  have h : sts n (a ^^^ b) = 0 := by rw [sts_xor, e, Nat.xor_self]
  exact xor_eq_zero (sts_inj0 n _ (Nat.xor_lt_two_pow ha hb) h)

/-- the value of the register behind one byte -/
def by1 (v c : Nat) : Nat := sts 8 (v ^^^ c)

/-- behind all bytes -/
def reg (v : Nat) (l : List UInt8) : Nat := l.foldl (fun v c => by1 v c.toNat) v

/-- all bits exchanged -/
def neg (v : Nat) : Nat := v ^^^ 4294967295

def sum (l : List UInt8) : Nat := neg (reg 4294967295 l)

theorem byte_lt (c : UInt8) : c.toNat < 2 ^ 32 := by have := UInt8.toNat_lt c; omega

theorem by1_lt {v c : Nat} (h : v < 2 ^ 32) (hc : c < 2 ^ 32) : by1 v c < 2 ^ 32 := sts_lt _ _ (Nat.xor_lt_two_pow h hc)

theorem reg_lt : ∀ (l : List UInt8) (v : Nat), v < 2 ^ 32 → reg v l < 2 ^ 32
  | [], _, h => h
  | c :: l, _, h => reg_lt l _ (by1_lt h (byte_lt c))

theorem neg_lt {v : Nat} (h : v < 2 ^ 32) : neg v < 2 ^ 32 := Nat.xor_lt_two_pow h (by decide)

theorem sum_lt (l : List UInt8) : sum l < 2 ^ 32 := neg_lt (reg_lt l _ (by decide))

theorem reg_nil (v : Nat) : reg v [] = v := rfl
theorem reg_cons (v : Nat) (c : UInt8) (l : List UInt8) : reg v (c :: l) = reg (by1 v c.toNat) l := rfl
theorem reg_append (v : Nat) (l m : List UInt8) : reg v (l ++ m) = reg (reg v l) m := by unfold reg; rw [List.foldl_append]

/-- what a register holds is added by its own way through as many zero bytes -/
theorem reg_xor : ∀ (l : List UInt8) (v d : Nat), reg (v ^^^ d) l = reg v l ^^^ sts (8 * l.length) d
  | [], _, _ => rfl
  | c :: l, v, d => by
    rw [reg_cons, reg_cons]
    have e : by1 (v ^^^ d) c.toNat = by1 v c.toNat ^^^ sts 8 d := by
      unfold by1
      rw [← sts_xor]
      congr 1
      rw [Nat.xor_assoc, Nat.xor_assoc, Nat.xor_comm d]
    rw [e, reg_xor l, List.length_cons, show 8 * (l.length + 1) = 8 + 8 * l.length from by omega, sts_add]

theorem neg_neg (v : Nat) : neg (neg v) = v := by unfold neg; rw [Nat.xor_assoc, Nat.xor_self, Nat.xor_zero]

theorem sum_append (a b : List UInt8) : sum (a ++ b) = sts (8 * b.length) (sum a) ^^^ sum b := by
  unfold sum
  rw [reg_append]
  have e : reg 4294967295 a = 4294967295 ^^^ neg (reg 4294967295 a) := by unfold neg; rw [Nat.xor_comm (reg _ _), ← Nat.xor_assoc, Nat.xor_self, Nat.zero_xor]
  have h : reg (reg 4294967295 a) b = reg 4294967295 b ^^^ sts (8 * b.length) (neg (reg 4294967295 a)) := by
    conv => lhs; rw [e]
    rw [reg_xor]
  rw [h]
  generalize reg 4294967295 b = x
  generalize sts (8 * b.length) (neg (reg 4294967295 a)) = y
  unfold neg
  rw [Nat.xor_comm x y, Nat.xor_assoc]

theorem xor6 (a b c x y z : Nat) : (a ^^^ b ^^^ c) ^^^ (x ^^^ y ^^^ z) = (a ^^^ x) ^^^ (b ^^^ y) ^^^ (c ^^^ z) := by
  apply Nat.eq_of_testBit_eq
  intro i
  simp only [Nat.testBit_xor]
  cases a.testBit i <;> cases b.testBit i <;> cases c.testBit i <;> cases x.testBit i <;> cases y.testBit i <;> cases z.testBit i <;> rfl

/-- the exclusive or of three strings -/
def xor3 : List UInt8 → List UInt8 → List UInt8 → List UInt8
  | x :: a, y :: b, z :: c => (x ^^^ y ^^^ z) :: xor3 a b c
  | _, _, _ => []

theorem reg_xor3 : ∀ (a b c : List UInt8) (x y z : Nat), a.length = b.length → b.length = c.length →
    reg (x ^^^ y ^^^ z) (xor3 a b c) = reg x a ^^^ reg y b ^^^ reg z c
  | [], [], [], x, y, z, _, _ => rfl
  | p :: a, q :: b, r :: c, x, y, z, h1, h2 => by
    rw [xor3, reg_cons, reg_cons, reg_cons, reg_cons]
    have e : by1 (x ^^^ y ^^^ z) (p ^^^ q ^^^ r).toNat = by1 x p.toNat ^^^ by1 y q.toNat ^^^ by1 z r.toNat := by
      unfold by1
      rw [← sts_xor, ← sts_xor, UInt8.toNat_xor, UInt8.toNat_xor, xor6]
    rw [e]
    exact reg_xor3 a b c _ _ _ (by simpa using h1) (by simpa using h2)

theorem sum_xor3 (a b c : List UInt8) (h1 : a.length = b.length) (h2 : b.length = c.length) : sum (xor3 a b c) = sum a ^^^ sum b ^^^ sum c := by
  unfold sum neg
  have h := reg_xor3 a b c 4294967295 4294967295 4294967295 h1 h2
  rw [show (4294967295 ^^^ 4294967295 ^^^ 4294967295 : Nat) = 4294967295 from by decide] at h
  rw [h, ← xor6, show (4294967295 ^^^ 4294967295 ^^^ 4294967295 : Nat) = 4294967295 from by decide]

/-- four bits at once, by a table of sixteen -/
theorem sts4_table (v : Nat) : sts 4 v = (v / 16) ^^^ sts 4 (v % 16) := by
  have e : v = (v % 16) ^^^ (v / 16 * 2 ^ 4) := by
    apply Nat.eq_of_testBit_eq
    intro i
    rw [Nat.testBit_xor, show (16 : Nat) = 2 ^ 4 from rfl, Nat.testBit_mod_two_pow, Nat.testBit_mul_two_pow, Nat.testBit_div_two_pow]
    by_cases h : i < 4
    · simp [h, show ¬ 4 ≤ i from by omega]
    · simp [h, show 4 ≤ i from by omega]
  conv => lhs; rw [e]
  rw [sts_xor, sts_double, Nat.xor_comm]

/-- bytes as a number, the least significant one first -/
def num : List UInt8 → Nat
  | [] => 0
  | c :: l => c.toNat + 256 * num l

theorem num_cons_xor (c : UInt8) (l : List UInt8) : num (c :: l) = c.toNat ^^^ (num l * 2 ^ 8) := by
  have hc := UInt8.toNat_lt c
  have h := Nat.two_pow_add_eq_or_of_lt (i := 8) (b := c.toNat) (by omega) (num l)
  have e : num (c :: l) = 2 ^ 8 * num l + c.toNat := by rw [num]; omega
  rw [e, h]
  apply Nat.eq_of_testBit_eq
  intro i
  rw [Nat.testBit_or, Nat.testBit_xor, Nat.mul_comm, Nat.testBit_mul_two_pow]
  by_cases hi : 8 ≤ i
  · have : c.toNat.testBit i = false := Nat.testBit_lt_two_pow (Nat.lt_of_lt_of_le (by omega : c.toNat < 2 ^ 8) (Nat.pow_le_pow_right (by omega) hi))
    simp [this]
  · simp [hi]

theorem num_lt : ∀ l : List UInt8, num l < 2 ^ (8 * l.length)
  | [] => by simp [num]
  | c :: l => by
    have h := num_lt l
    have hc := UInt8.toNat_lt c
    rw [num, List.length_cons, show 8 * (l.length + 1) = 8 * l.length + 8 from by omega, Nat.pow_add]
    omega

theorem reg_num : ∀ (l : List UInt8) (v : Nat), reg v l = sts (8 * l.length) (v ^^^ num l)
  | [], v => by simp [reg, num, sts]
  | c :: l, v => by
    rw [reg_cons, reg_num l, List.length_cons, show 8 * (l.length + 1) = 8 + 8 * l.length from by omega, sts_add, num_cons_xor, ← Nat.xor_assoc, sts_xor 8, sts_double]
    rfl

theorem num_append : ∀ (a b : List UInt8), num (a ++ b) = num a + 2 ^ (8 * a.length) * num b
  | [], b => by simp [num]
  | c :: a, b => by
    rw [List.cons_append, num, num_append a b, num, List.length_cons, show 8 * (a.length + 1) = 8 + 8 * a.length from by omega, Nat.pow_add, Nat.mul_add, Nat.mul_assoc]
    omega

theorem num_inj : ∀ (a b : List UInt8), a.length = b.length → num a = num b → a = b
  | [], [], _, _ => rfl
  | c :: a, d :: b, h, e => by
    rw [num, num] at e
    have hc := UInt8.toNat_lt c
    have hd := UInt8.toNat_lt d
    have e1 : c.toNat = d.toNat := by omega
    have e2 : num a = num b := by omega
    rw [UInt8.toNat_inj.mp e1, num_inj a b (by simpa using h) e2]

/-- the four bytes of a sum -/
def le4 (s : Nat) : List UInt8 := [UInt8.ofNat s, UInt8.ofNat (s / 256), UInt8.ofNat (s / 65536), UInt8.ofNat (s / 16777216)]

theorem le4_length (s : Nat) : (le4 s).length = 4 := rfl

theorem num_le4 {s : Nat} (h : s < 2 ^ 32) : num (le4 s) = s := by
  simp only [le4, num, UInt8.toNat_ofNat']
  omega

def shutIt (l : List UInt8) : List UInt8 := l ++ le4 (sum l)

theorem shut_length (l : List UInt8) : (shutIt l).length = l.length + 4 := by simp [shutIt, le4]

/-- is a string sealed? -/
def Good (b : List UInt8) : Prop := 4 ≤ b.length ∧ le4 (sum (b.take (b.length - 4))) = b.drop (b.length - 4)

theorem shut_good (l : List UInt8) : Good (shutIt l) := by
  unfold Good
  rw [shut_length, show l.length + 4 - 4 = l.length from by omega]
  unfold shutIt
  rw [List.take_left, List.drop_left]
  exact ⟨by omega, rfl⟩

theorem xor_neg (r : Nat) : r ^^^ neg r = 4294967295 := by unfold neg; rw [← Nat.xor_assoc, Nat.xor_self, Nat.zero_xor]

/-- a sealed string leaves one and the same register -/
theorem good_reg {b : List UInt8} (h : Good b) : reg 4294967295 b = sts 32 4294967295 := by
  obtain ⟨h4, e⟩ := h
  have hb : b = b.take (b.length - 4) ++ b.drop (b.length - 4) := (List.take_append_drop _ _).symm
  rw [← e] at hb
  generalize b.take (b.length - 4) = p at hb
  rw [hb, reg_append, reg_num (le4 _), num_le4 (sum_lt _)]
  show sts 32 (reg 4294967295 p ^^^ neg (reg 4294967295 p)) = _
  rw [xor_neg]

/-- two strings of one length whose numbers differ by a burst of less than 2^32 are not both sealed -/
theorem burst {a b : List UInt8} (ha : Good a) (hl : b.length = a.length) (m at_ : Nat) (hm : m < 2 ^ 32) (h0 : m ≠ 0) (hat : at_ ≤ 8 * a.length)
    (e : num b = num a ^^^ (m * 2 ^ at_)) : ¬ Good b := by
  intro hb
  have r1 := good_reg ha
  have r2 := good_reg hb
  rw [reg_num, hl, e, ← Nat.xor_assoc, sts_xor, ← reg_num, r1] at r2
  have r3 : sts (8 * a.length) (m * 2 ^ at_) = 0 := by
    generalize sts 32 4294967295 = x at r2
    have h2 : x ^^^ (x ^^^ sts (8 * a.length) (m * 2 ^ at_)) = x ^^^ x := by rw [r2]
    rwa [← Nat.xor_assoc, Nat.xor_self, Nat.zero_xor] at h2
  rw [show 8 * a.length = at_ + (8 * a.length - at_) from by omega, sts_add, sts_double] at r3
  exact h0 (sts_inj0 _ _ hm r3)

/-- one bit exchanged -/
def flip (l : List UInt8) (k : Nat) : List UInt8 := l.set (k / 8) (l.getD (k / 8) 0 ^^^ UInt8.ofNat (2 ^ (k % 8)))

theorem flip_length (l : List UInt8) (k : Nat) : (flip l k).length = l.length := by simp [flip]

theorem num_flip : ∀ (l : List UInt8) (k : Nat), k < 8 * l.length → num (flip l k) = num l ^^^ 2 ^ k
  | [], k, h => by simp at h
  | c :: l, k, h => by
    by_cases hk : k < 8
    · have e : flip (c :: l) k = (c ^^^ UInt8.ofNat (2 ^ k)) :: l := by
        unfold flip
        rw [Nat.div_eq_of_lt hk, Nat.mod_eq_of_lt hk]; rfl
      rw [e, num_cons_xor, num_cons_xor, UInt8.toNat_xor]
      have e2 : (UInt8.ofNat (2 ^ k)).toNat = 2 ^ k := by
        rw [UInt8.toNat_ofNat']
        exact Nat.mod_eq_of_lt (Nat.pow_lt_pow_right (by omega) hk)
      rw [e2, Nat.xor_assoc, Nat.xor_assoc, Nat.xor_comm (2 ^ k)]
    · have e : flip (c :: l) k = c :: flip l (k - 8) := by
        unfold flip
        have e1 : k / 8 = (k - 8) / 8 + 1 := by omega
        have e2 : k % 8 = (k - 8) % 8 := by omega
        rw [e1, e2]; rfl
      rw [e, num_cons_xor, num_cons_xor, num_flip l (k - 8) (by simp at h; omega), Nat.xor_assoc]
      congr 1
      apply Nat.eq_of_testBit_eq
      intro i
      rw [Nat.testBit_mul_two_pow, Nat.testBit_xor, Nat.testBit_xor, Nat.testBit_mul_two_pow, Nat.testBit_two_pow, Nat.testBit_two_pow]
      by_cases hi : 8 ≤ i
      · simp [hi, show (k - 8 = i - 8) ↔ (k = i) from by omega]
      · simp [hi, show k ≠ i from by omega]

/-- a round of the burst's loop -/
theorem num_flip_burst (a b : List UInt8) (pat at_ i : Nat) (hl : b.length = a.length) (hi : at_ + i < 8 * a.length)
    (e : num b = num a ^^^ (pat % 2 ^ i * 2 ^ at_)) (hbit : pat / 2 ^ i % 2 = 1) :
    num (flip b (at_ + i)) = num a ^^^ (pat % 2 ^ (i + 1) * 2 ^ at_) := by
  rw [num_flip _ _ (by omega), e, Nat.xor_assoc]
  congr 1
  apply Nat.eq_of_testBit_eq
  intro j
  rw [Nat.testBit_xor, Nat.testBit_mul_two_pow, Nat.testBit_mul_two_pow, Nat.testBit_two_pow, Nat.testBit_mod_two_pow, Nat.testBit_mod_two_pow]
  by_cases hj : at_ ≤ j
  · by_cases hji : j = at_ + i
    · subst hji
      have hb : pat.testBit i = true := by rw [Nat.testBit_eq_decide_div_mod_eq, hbit]; rfl
      simp [hb]
    · have h1 : (j - at_ < i + 1) ↔ (j - at_ < i) := by omega
      have h2 : ¬ (at_ + i = j) := fun h => hji h.symm
      simp [hj, h1, h2]
  · have h2 : ¬ (at_ + i = j) := by omega
    simp [hj, h2]

theorem mod_pow_succ_zero (pat i : Nat) (h : pat / 2 ^ i % 2 = 0) : pat % 2 ^ (i + 1) = pat % 2 ^ i := by
  rw [Nat.pow_succ, Nat.mod_mul, h]; omega

theorem mod_pow_succ_one (pat i : Nat) (h : pat / 2 ^ i % 2 = 1) : pat % 2 ^ (i + 1) ≠ 0 := by
  have hp : 0 < 2 ^ i := Nat.two_pow_pos i
  rw [Nat.pow_succ, Nat.mod_mul, h]
  omega


/-- linear functions: a round of 'of' -/
theorem mod_pow_succ_xor (v i : Nat) : v % 2 ^ (i + 1) = (v % 2 ^ i) ^^^ (v / 2 ^ i % 2 * 2 ^ i) := by
  apply Nat.eq_of_testBit_eq
  intro j
  rw [Nat.testBit_xor, Nat.testBit_mod_two_pow, Nat.testBit_mod_two_pow, Nat.testBit_mul_two_pow]
  by_cases h1 : j < i
  · simp [h1, show j < i + 1 from by omega, show ¬ i ≤ j from by omega]
  · by_cases h2 : j = i
    · subst h2
      simp only [Nat.lt_irrefl, decide_false, Bool.false_and, Bool.false_xor, Nat.lt_succ_self, decide_true, Bool.true_and, Nat.le_refl, Nat.sub_self, Nat.testBit_zero, Nat.mod_mod]
      rw [Nat.testBit_eq_decide_div_mod_eq]
    · have h3 : i ≤ j := by omega
      have h4 : ¬ j < i + 1 := by omega
      have h5 : (v / 2 ^ i % 2).testBit (j - i) = false := by
        apply Nat.testBit_lt_two_pow
        have : 2 ^ 1 ≤ 2 ^ (j - i) := Nat.pow_le_pow_right (by omega) (by omega)
        omega
      simp [h1, h3, h4, h5]

theorem sts_round_one (k v i : Nat) (h : v / 2 ^ i % 2 = 1) : sts k (v % 2 ^ i) ^^^ sts k (2 ^ i) = sts k (v % 2 ^ (i + 1)) := by
  rw [mod_pow_succ_xor v i, h, Nat.one_mul, sts_xor]

theorem sts_round_zero (k v i : Nat) (h : v / 2 ^ i % 2 = 0) : sts k (v % 2 ^ i) = sts k (v % 2 ^ (i + 1)) := by
  rw [mod_pow_succ_zero v i h]

theorem mod_of_div_zero (v i : Nat) (h : v / 2 ^ i = 0) : v % 2 ^ i = v := by
  have hp : 0 < 2 ^ i := Nat.two_pow_pos i
  have := Nat.div_add_mod v (2 ^ i)
  rw [h] at this
  omega

theorem div_pow_succ (v i : Nat) : v / 2 ^ (i + 1) = v / 2 ^ i / 2 := by
  rw [Nat.pow_succ, Nat.div_div_eq_div_mul]

/-- Combine: a round with the bit 1 -/
theorem comb_one (n j x : Nat) (h : n / 2 ^ j % 2 = 1) : sts (8 * 2 ^ j) (sts (8 * (n % 2 ^ j)) x) = sts (8 * (n % 2 ^ (j + 1))) x := by
  rw [← sts_add]
  congr 1
  rw [Nat.pow_succ, Nat.mod_mul, h]
  omega

theorem comb_zero (n j x : Nat) (h : n / 2 ^ j % 2 = 0) : sts (8 * (n % 2 ^ j)) x = sts (8 * (n % 2 ^ (j + 1))) x := by
  rw [mod_pow_succ_zero n j h]

theorem twice_img (j v : Nat) : sts (8 * 2 ^ j) (sts (8 * 2 ^ j) v) = sts (8 * 2 ^ (j + 1)) v := by
  rw [← sts_add]
  congr 1
  rw [Nat.pow_succ]; omega

/-- three parts from either end -/
theorem chains (X Y Z i j : Nat) : sts (8 * j) (sts (8 * i) X ^^^ Y) ^^^ Z = sts (8 * (i + j)) X ^^^ (sts (8 * j) Y ^^^ Z) := by
  rw [sts_xor, ← sts_add, Nat.xor_assoc, show 8 * i + 8 * j = 8 * (i + j) from by omega]

end Ck
