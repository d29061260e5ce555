/- Frames for calls that write a state of their own; bitio's Writer; math/bits.Len64.
   Conditions: those of the theorems. -/
import Derived.Test.YtmeojlamadcedaaGivenCk
import Derived.Test.YtmeojlamadcedaaPoPure

namespace Go.Proofs.Ytmeojlamadcedaa
open Go.RowKit Go.Sort Go.Proofs.YtmeojlamadcedaaW.PrintWords

/-- Of what was there, all but the blocks S is as it was. -/
structure Fr (S : Nat → Prop) (w w' : World) : Prop where
  os : w'.os = w.os
  tape : w'.tape = w.tape
  output : w'.output = w.output
  size : w.heap.size ≤ w'.heap.size
  block : ∀ k, k < w.heap.size → ¬ S k → w'.heap[k]? = w.heap[k]?

theorem Fr.refl (S : Nat → Prop) (w : World) : Fr S w w := ⟨rfl, rfl, rfl, Nat.le_refl _, fun _ _ _ => rfl⟩
theorem Fr.trans {S S1 : Nat → Prop} {a b c : World} (h : Fr S a b) (k : Fr S1 b c) (hs : ∀ i, i < a.heap.size → S1 i → S i) : Fr S a c :=
  ⟨k.os.trans h.os, k.tape.trans h.tape, k.output.trans h.output, Nat.le_trans h.size k.size, fun i hi hn => (k.block i (Nat.lt_of_lt_of_le hi h.size) (fun h1 => hn (hs i hi h1))).trans (h.block i hi hn)⟩
theorem Fr.mono {S S1 : Nat → Prop} {a b : World} (h : Fr S a b) (hs : ∀ i, S i → S1 i) : Fr S1 a b :=
  ⟨h.os, h.tape, h.output, h.size, fun i hi hn => h.block i hi (fun h1 => hn (hs i h1))⟩
theorem Fr.ofBelow {S : Nat → Prop} {w w' : World} (h : Below w.heap.size w w') : Fr S w w' := ⟨h.os, h.tape, h.output, h.size, fun k hk _ => h.block k hk⟩
theorem Fr.below {S : Nat → Prop} {w w' : World} {B : Nat} (h : Fr S w w') (hB : B ≤ w.heap.size) (hs : ∀ k, k < B → ¬ S k) : Below B w w' :=
  ⟨h.os, h.tape, h.output, h.size, fun k hk => h.block k (Nat.lt_of_lt_of_le hk hB) (hs k hk)⟩
theorem Fr.after {S : Nat → Prop} {B : Nat} {a b c : World} (h : Below B a b) (k : Fr S b c) (hB : B ≤ b.heap.size) (hs : ∀ i, i < B → ¬ S i) : Below B a c := h.trans (k.below hB hs)
theorem Fr.set {S : Nat → Prop} {w w' : World} (h : Fr S w w') {p : Addr} (hp : S p.block ∨ w.heap.size ≤ p.block) (u : Value) : Fr S w (w'.setCell p u) :=
  ⟨h.os, h.tape, h.output, by simpa [World.setCell] using h.size, fun k hk hn => (Below.heap_setCell _ _ _ _ (fun e => by
    rcases hp with hp | hp
    · exact hn (e ▸ hp)
    · omega)).trans (h.block k hk hn)⟩
theorem Fr.grown {S : Nat → Prop} {w w1 w' : World} {row : Option Nat} (h : Fr S w w1) (hg : w1.grownBy w' row) (hs : ∀ k, k < w.heap.size → row = some k → S k) : Fr S w w' :=
  ⟨hg.os.trans h.os, hg.tape.trans h.tape, hg.output.trans h.output, Nat.le_trans h.size hg.size, fun k hk hn => (hg.block k (Nat.lt_of_lt_of_le hk h.size) (fun e => hn (hs k hk e.symm))).trans (h.block k hk hn)⟩
theorem Fr.alloc {S : Nat → Prop} {w w1 : World} (h : Fr S w w1) (o : Obj) : Fr S w (w1.alloc o) := h.grown (World.grownBy_alloc w1 o none) (fun _ _ e => by cases e)
theorem Fr.drew {S : Nat → Prop} {w w1 : World} (h : Fr S w w1) : Fr S w w1.drew := ⟨h.os, h.tape, h.output, h.size, h.block⟩
theorem Fr.blk {S : Nat → Prop} {w w' : World} (h : Fr S w w') {k : Nat} {o : Obj} (hb : w.heap[k]? = some o) (hn : ¬ S k) : w'.heap[k]? = some o := (h.block k (blk_lt hb) hn).trans hb
theorem Fr.own {S : Nat → Prop} {w w' : World} (h : Fr S w w') {base : Nat} {e : TypeId} {size n : Nat} {v : Value} {xs : List Value} (ho : w.ownsRow base e size v n xs) (hn : ∀ k, v.ownBlock = some k → ¬ S k) : w'.ownsRow base e size v n xs := by
  obtain ⟨h1, h2⟩ := ho
  refine ⟨h1, ?_⟩
  rcases h2 with h2 | ⟨b, cap, cur, rfl, hb, hh, r⟩
  · exact .inl h2
  · exact .inr ⟨b, cap, cur, rfl, hb, h.blk hh (hn b rfl), r⟩
/-- The blocks of a state at block a whose row is v. -/
def Its (a : Nat) (v : Value) (k : Nat) : Prop := k = a ∨ v.ownBlock = some k
/-- A step of such a state: its row is the one before, or a new one. -/
structure Nx (a : Nat) (v : Value) (w : World) (v' : Value) (w' : World) : Prop where
  fr : Fr (Its a v) w w'
  row : v'.ownBlock = v.ownBlock ∨ ∃ b, v'.ownBlock = some b ∧ w.heap.size ≤ b
theorem Nx.refl (a : Nat) (v : Value) (w : World) : Nx a v w v w := ⟨Fr.refl _ _, .inl rfl⟩
theorem Nx.its {a : Nat} {v v' : Value} {w w' : World} (h : Nx a v w v' w') (k : Nat) (hk : k < w.heap.size) (hs : Its a v' k) : Its a v k := by
  rcases hs with hs | hs
  · exact .inl hs
  · rcases h.row with h1 | ⟨b, h1, h2⟩
    · exact .inr (h1 ▸ hs)
    · rw [h1] at hs
      have := Option.some.inj hs
      omega
theorem Nx.trans {a : Nat} {v v1 v2 : Value} {w w1 w2 : World} (h : Nx a v w v1 w1) (k : Nx a v1 w1 v2 w2) : Nx a v w v2 w2 := by
  refine ⟨h.fr.trans k.fr (fun i hi hs => h.its i hi hs), ?_⟩
  rcases k.row with h1 | ⟨b, h1, h2⟩
  · rw [h1]; exact h.row
  · exact .inr ⟨b, h1, Nat.le_trans h.fr.size h2⟩
theorem Nx.drew {a : Nat} {v v1 : Value} {w w1 : World} (h : Nx a v w v1 w1) : Nx a v w v1 w1.drew := ⟨h.fr.drew, h.row⟩
theorem Nx.set {a : Nat} {v v1 : Value} {w w1 : World} (h : Nx a v w v1 w1) (j : Nat) (u : Value) : Nx a v w v1 (w1.setCell ⟨a, j, none⟩ u) := ⟨h.fr.set (.inl (.inl rfl)) u, h.row⟩

/-- A bit writer at block a: the value v of its bytes, the bits that it holds. -/
structure Wr (base : Nat) (w : World) (a : Nat) (v : Value) (bs : List Bool) : Prop where
  low : base ≤ a
  blk : w.heap[a]? = some (.cells #[v, .int .i64 (bs.length : Nat)] 135 (0, 0))
  row : w.ownsRow base 5 1 v (Po.pack bs).length (vals (Po.pack bs))
  ne : v.ownBlock ≠ some a
theorem Wr.its {base : Nat} {w : World} {a : Nat} {v : Value} {bs : List Bool} (h : Wr base w a v bs) (k : Nat) (hs : Its a v k) : base ≤ k := by
  rcases hs with rfl | hs
  · exact h.low
  · exact (h.row.lt k hs).1
theorem Wr.move {base : Nat} {w w' : World} {a : Nat} {v : Value} {bs : List Bool} {S : Nat → Prop} (h : Wr base w a v bs) (hf : Fr S w w') (hn : ∀ k, Its a v k → ¬ S k) : Wr base w' a v bs :=
  ⟨h.low, hf.blk h.blk (hn a (.inl rfl)), hf.own h.row (fun k hk => hn k (.inr hk)), h.ne⟩
theorem Wr.later {base : Nat} {w w' : World} {a : Nat} {v : Value} {bs : List Bool} (h : Wr base w a v bs) (hb : Below w.heap.size w w') : Wr base w' a v bs :=
  h.move (S := fun _ => False) (Fr.ofBelow hb) (fun _ _ h => h)
end Go.Proofs.Ytmeojlamadcedaa

namespace Go.Proofs.Ytmeojlamadcedaa
open Go.RowKit Go.Sort Go.Proofs.YtmeojlamadcedaaW.PrintWords

theorem and_seven {v : Nat} (hv : v < 4611686018427387904) : bits .and .i64 ((v : Nat) : Int) 7 = ((v % 8 : Nat) : Int) := by
  have e1 : (BitVec.ofInt 64 (v : Int)) = BitVec.ofNat 64 v := by simp
  show IntKind.i64.wrap ((BitVec.ofInt 64 (v : Int) &&& BitVec.ofInt 64 7).toNat : Int) = _
  have e2 : (BitVec.ofInt 64 7).toNat = 2 ^ 3 - 1 := by decide
  rw [BitVec.toNat_and, e1, e2, Nat.and_two_pow_sub_one_eq_mod, BitVec.toNat_ofNat, Nat.mod_eq_of_lt (show v < 2 ^ 64 by omega)]
  rw [show (2 : Nat) ^ 3 = 8 from rfl]
  generalize hm : v % 8 = m
  have hm8 : m < 8 := by omega
  simp [IntKind.wrap, IntKind.bits, IntKind.signed]
  omega

theorem own_some {w : World} {base n : Nat} {e : TypeId} {v : Value} {xs : List Value} (h : w.ownsRow base e 1 v n xs) (hn : 0 < n) : ∃ g cap, v = .slice (some ⟨g, 0, none⟩) n cap ∧ n ≤ cap := by
  rcases h.2 with ⟨_, h0⟩ | ⟨g, cap, cur, hv, _, _, hc, _⟩
  · omega
  · exact ⟨g, cap, hv, hc⟩

theorem new_ne {v : Value} {a g n cap : Nat} {w : World} (h : v.ownBlock ≠ some a) (ha : a < w.heap.size)
    (hat : (Value.slice (some ⟨g, 0, none⟩) n cap).ownBlock = v.ownBlock ∨ ∃ b, (Value.slice (some ⟨g, 0, none⟩) n cap).ownBlock = some b ∧ w.heap.size ≤ b) : g ≠ a := by
  rintro rfl
  rcases hat with e | ⟨b, e, hb⟩
  · exact h (e ▸ rfl)
  · have e2 : some g = some b := e
    have := Option.some.inj e2
    omega

/-- A writer whose row has room for one bit more. -/
structure Mid (base : Nat) (w : World) (a : Nat) (v : Value) (bs : List Bool) (g m cap : Nat) (W : World) : Prop where
  low : base ≤ a
  ne : g ≠ a
  len : m = bs.length / 8 + 1
  blk : W.heap[a]? = some (.cells #[.slice (some ⟨g, 0, none⟩) m cap, .int .i64 (bs.length : Nat)] 135 (0, 0))
  row : W.ownsRow base 5 1 (.slice (some ⟨g, 0, none⟩) m cap) m (vals (Po.room bs))
  nx : Nx a v w (.slice (some ⟨g, 0, none⟩) m cap) W

theorem Mid.grown {base a g m cap c : Nat} {A : Option Addr} {w w1 : World} {bs : List Bool} {pk : List UInt8} (hW : Wr base w a (.slice A pk.length c) bs) (hpk : Po.pack bs = pk) (h8 : bs.length % 8 = 0)
    (hm : m = (vals pk ++ [Value.int .u8 0]).length)
    (hown : w1.ownsRow base 5 1 (.slice (some ⟨g, 0, none⟩) m cap) m (vals pk ++ [Value.int .u8 0])) (hgr : w.grownBy w1 (Value.slice A pk.length c).ownBlock)
    (hat : (Value.slice (some ⟨g, 0, none⟩) m cap).ownBlock = (Value.slice A pk.length c).ownBlock ∨ ∃ b, (Value.slice (some ⟨g, 0, none⟩) m cap).ownBlock = some b ∧ w.heap.size ≤ b) :
    Mid base w a (.slice A pk.length c) bs g m cap (w1.setCell ⟨a, 0, none⟩ (.slice (some ⟨g, 0, none⟩) m cap)) := by
  have hne : g ≠ a := new_ne hW.ne (blk_lt hW.blk) hat
  have hroom : vals (Po.room bs) = vals pk ++ [Value.int .u8 0] := by
    unfold Po.room
    rw [if_pos h8, hpk]
    simp [vals]
  have hk1 := blk_grown hW.blk hgr (fun e => hW.ne e.symm)
  refine ⟨hW.low, hne, ?_, ?_, ?_, ⟨?_, hat⟩⟩
  · rw [hm, List.length_append, vals, List.length_map, ← hpk, Po.pack_len]
    simp; omega
  · have h := blk_set hk1 0 (.slice (some ⟨g, 0, none⟩) m cap)
    simpa using h
  · rw [hroom]
    exact own_setCell hown (fun e => hne (Option.some.inj e).symm) _
  · have h1 : Fr (Its a (.slice A pk.length c)) w w1 := (Fr.refl _ w).grown hgr (fun k _ hk => .inr hk)
    exact h1.set (.inl (.inl rfl)) _

theorem Mid.held {base a g m cap : Nat} {w : World} {bs : List Bool} (hW : Wr base w a (.slice (some ⟨g, 0, none⟩) m cap) bs) (h8 : ¬ bs.length % 8 = 0) (hm : m = (Po.pack bs).length) :
    Mid base w a (.slice (some ⟨g, 0, none⟩) m cap) bs g m cap w := by
  have hroom : Po.room bs = Po.pack bs := by unfold Po.room; rw [if_neg h8]
  refine ⟨hW.low, fun e => hW.ne (by rw [e]; rfl), ?_, hW.blk, ?_, Nx.refl _ _ _⟩
  · rw [hm, Po.pack_len]; omega
  · rw [hroom]; have := hW.row; rwa [← hm] at this

theorem Mid.even {base a g m cap : Nat} {v : Value} {w W : World} {bs : List Bool} (h : Mid base w a v bs g m cap W) :
    Wr base (W.setCell ⟨a, 1, none⟩ (.int .i64 ((bs.length : Int) + 1))) a (.slice (some ⟨g, 0, none⟩) m cap) (bs ++ [false]) ∧ Nx a v w (.slice (some ⟨g, 0, none⟩) m cap) (W.setCell ⟨a, 1, none⟩ (.int .i64 ((bs.length : Int) + 1))) := by
  have hr := h.row
  have hl := h.len
  refine ⟨⟨h.low, ?_, ?_, fun e => h.ne (Option.some.inj e)⟩, h.nx.set 1 _⟩
  · have h1 := blk_set h.blk 1 (.int .i64 ((bs.length : Int) + 1))
    have e : (((bs ++ [false]).length : Nat) : Int) = (bs.length : Int) + 1 := by simp
    rw [e]
    simpa using h1
  · rw [Po.pack_false, Po.room_len, ← hl]
    exact own_setCell hr (fun e => h.ne (Option.some.inj e).symm) _

theorem Mid.odd {base a g m cap : Nat} {v : Value} {w W : World} {bs : List Bool} (h : Mid base w a v bs g m cap W) (c : Nat) (hc : c = ((Po.room bs).getD (bs.length / 8) 0).toNat ||| 2 ^ (7 - bs.length % 8)) :
    Wr base ((W.drew.setCell ⟨g, bs.length / 8, none⟩ (.int .u8 (c : Nat))).setCell ⟨a, 1, none⟩ (.int .i64 ((bs.length : Int) + 1))) a (.slice (some ⟨g, 0, none⟩) m cap) (bs ++ [true]) ∧
      Nx a v w (.slice (some ⟨g, 0, none⟩) m cap) ((W.drew.setCell ⟨g, bs.length / 8, none⟩ (.int .u8 (c : Nat))).setCell ⟨a, 1, none⟩ (.int .i64 ((bs.length : Int) + 1))) := by
  have hr := h.row
  have hl := h.len
  have hp : 2 ^ (7 - bs.length % 8) < 2 ^ 8 := Nat.pow_lt_pow_right (by omega) (by omega)
  have hx := ((Po.room bs).getD (bs.length / 8) 0).toNat_lt
  have hc8 : c < 2 ^ 8 := by rw [hc]; exact Nat.or_lt_two_pow hx hp
  have hpk : Po.pack (bs ++ [true]) = (Po.room bs).set (bs.length / 8) (UInt8.ofNat c) := by
    rw [Po.pack_snoc, hc, Bool.toNat_true, Nat.one_mul]
  have hv : vals (Po.pack (bs ++ [true])) = (vals (Po.room bs)).set (bs.length / 8) (.int .u8 (c : Nat)) := by
    rw [hpk]; unfold vals
    rw [List.map_set, UInt8.toNat_ofNat', Nat.mod_eq_of_lt hc8]
  have hr1 : W.drew.ownsRow base 5 1 (.slice (some ⟨g, 0, none⟩) m cap) m (vals (Po.room bs)) := hr
  have hst := (hr1.stored (bs.length / 8) (.int .u8 (c : Nat))).1
  refine ⟨⟨h.low, ?_, ?_, fun e => h.ne (Option.some.inj e)⟩, ?_⟩
  · have h1 : (W.drew.setCell ⟨g, bs.length / 8, none⟩ (.int .u8 (c : Nat))).heap[a]? = _ := blk_far (w := W.drew) h.blk (p := ⟨g, bs.length / 8, none⟩) (fun e => h.ne e.symm) _
    have h2 := blk_set h1 1 (.int .i64 ((bs.length : Int) + 1))
    have e : (((bs ++ [true]).length : Nat) : Int) = (bs.length : Int) + 1 := by simp
    rw [e]
    simpa using h2
  · rw [hv, hpk, List.length_set, Po.room_len, ← hl]
    exact own_setCell hst (fun e => h.ne (Option.some.inj e).symm) _
  · refine Nx.set ⟨h.nx.drew.fr.set ?_ _, h.nx.row⟩ 1 _
    rcases h.nx.row with e | ⟨b, e, hb⟩
    · exact .inl (.inr (e ▸ rfl))
    · have e2 : some g = some b := e
      exact .inr (by have := Option.some.inj e2; show w.heap.size ≤ g; omega)

theorem or_high {by_ r : Nat} (hr : r < 8) (hb : by_ < 256) : bits .or .u8 (by_ : Int) (128 / 2 ^ r) = ((by_ ||| 2 ^ (7 - r) : Nat) : Int) := by
  have e : (128 : Int) / 2 ^ r = ((2 ^ (7 - r) : Nat) : Int) := by
    have : r = 0 ∨ r = 1 ∨ r = 2 ∨ r = 3 ∨ r = 4 ∨ r = 5 ∨ r = 6 ∨ r = 7 := by omega
    rcases this with rfl | rfl | rfl | rfl | rfl | rfl | rfl | rfl <;> decide
  rw [e]
  exact u8_or_nat _ _ hb (Nat.pow_lt_pow_right (m := 7 - r) (n := 8) (by omega) (by omega))

set_option maxHeartbeats 2000000 in
set_option maxRecDepth 100000 in
theorem put_calls (base a : Nat) (v : Value) (bs : List Bool) (x : Nat) (w : World) (hW : Wr base w a v bs) (hx : x < 18446744073709551616) (hl : bs.length < 1000000000000) :
    Calls Try.prog 109 #[.pointer (some ⟨a, 0, none⟩), .int .u64 (x : Nat)] w fun e w' => e = .returned (.tuple #[]) ∧ ∃ v', Wr base w' a v' (bs ++ [x % 2 == 1]) ∧ Nx a v w v' w' := by
  have h7 := and_seven (v := bs.length) (by omega)
  have hand := and_one_u64 (x : Int) (by omega) (by omega)
  have hpl := Po.pack_len bs
  obtain ⟨A, c, rfl⟩ := own_slice hW.row
  have HW := Lib.hid hW
  have HPL := Lib.hid hpl
  have HROW := Lib.hid hW.row
  have HBLK := Lib.hid hW.blk
  have HNE := Lib.hid hW.ne
  have c1 : w.cell? ⟨a, 1, none⟩ = some (.int .i64 (bs.length : Nat)) := (blk_cell hW.blk 1).trans rfl
  have c0 : w.cell? ⟨a, 0, none⟩ = some (.slice A (Po.pack bs).length c) := (blk_cell hW.blk 0).trans rfl
  have f0 : w.frozen? ⟨a, 0, none⟩ = false := blk_frozen hW.blk 0
  have f1 : w.frozen? ⟨a, 1, none⟩ = false := blk_frozen hW.blk 1
  have hbase : Hid (base ≤ w.heap.size) := Lib.hid (Nat.le_trans hW.low (Nat.le_of_lt (blk_lt hW.blk)))
  clear hW hpl
  generalize hpk : Po.pack bs = pk at *
  have HPK := Lib.hid hpk
  clear hpk
  by_cases h8 : bs.length % 8 = 0
  · have hz : decide (((bs.length % 8 : Nat) : Int) = 0) = true := by simp; omega
    have hpv : (vals pk).length = pk.length := by simp [vals]
    have HROW2 : Hid (w.ownsRow base 5 1 (.slice A pk.length c) (vals pk).length (vals pk)) := Lib.hid (by rw [hpv]; exact HROW.out)
    have hmx : Hid (((vals pk).length + 1) * 1 ≤ 140737488355328) := Lib.hid (by have := HPL.out; omega)
    have HPV := Lib.hid hpv
    clear hpv
    by_cases hodd : x % 2 = 1
    · have ho : decide ((x : Int) % 2 = 1) = true := by simp; omega
      have hb : (x % 2 == 1) = true := by simp; omega
      go_enter Try.func109, Try.ntmps109
      go_wp2_with (first
        | ((with_reducible refine gate_dst (N := 16) rfl ?_); refine print_append (w0 := w) (W := w) base rfl (.tmp 14) (.tmp 15) 22 5 (.int .u8 0) 1 rfl (show Try.prog.underlying 22 = some (.slice 5) by kernel_rfl) (by kernel_rfl) rfl (by decide) (.slice A pk.length c) (vals pk) (.int .u8 0) rfl rfl rfl HROW2.out (Below.refl _ _) hbase.out hmx.out ?_
           ; intro v1 w1 hown _ hgr hat
           ; have hk1 : w1.heap[a]? = some (.cells #[.slice A pk.length c, .int .i64 (bs.length : Nat)] 135 (0, 0)) := blk_grown HBLK.out hgr (fun e => HNE.out e.symm)
           ; obtain ⟨g, cap, rfl, hgc⟩ := own_some hown (by simp)
           ; have hga : g ≠ a := new_ne HNE.out (blk_lt HBLK.out) hat
           ; have c10 : w1.cell? ⟨a, 0, none⟩ = some (.slice A pk.length c) := (blk_cell hk1 0).trans rfl
           ; have c11 : w1.cell? ⟨a, 1, none⟩ = some (.int .i64 (bs.length : Nat)) := (blk_cell hk1 1).trans rfl
           ; have f10 : w1.frozen? ⟨a, 0, none⟩ = false := blk_frozen hk1 0
           ; have f11 : w1.frozen? ⟨a, 1, none⟩ = false := blk_frozen hk1 1
           ; have HOWN := Lib.hid hown; have HGR := Lib.hid hgr; have HK1 := Lib.hid hk1; have HAT := Lib.hid hat; clear hown hgr hk1 hat))
      have hM := Mid.grown HW.out HPK.out h8 rfl HOWN.out HGR.out HAT.out
      rw [show (vals pk ++ [Value.int .u8 0]).length = (vals pk).length + 1 by simp] at hM
      generalize hW2 : w1.setCell ⟨a, 0, none⟩ _ = W2 at hM ⊢
      generalize (vals pk).length + 1 = m at hM ⊢
      have HM := Lib.hid hM
      clear hM hW2 HK1 HOWN HGR HAT c10 c11 f10 f11
      have e7 := HM.out.len
      have c0 : W2.cell? ⟨a, 0, none⟩ = some (.slice (some ⟨g, 0, none⟩) m cap) := (blk_cell HM.out.blk 0).trans rfl
      have c1 : W2.cell? ⟨a, 1, none⟩ = some (.int .i64 (bs.length : Nat)) := (blk_cell HM.out.blk 1).trans rfl
      have f1 : W2.frozen? ⟨a, 1, none⟩ = false := blk_frozen HM.out.blk 1
      have cb : W2.cell? ⟨g, bs.length / 8, none⟩ = some (.int .u8 (((Po.room bs).getD (bs.length / 8) 0).toNat : Nat)) := by
        rw [HM.out.row.cellAt _ (by omega), vals, List.getElem?_map, List.getD_eq_getElem?_getD, List.getElem?_eq_getElem (by rw [Po.room_len]; omega)]; rfl
      have fb : W2.frozen? ⟨g, bs.length / 8, none⟩ = false := HM.out.row.frozenAt _
      have hxb := ((Po.room bs).getD (bs.length / 8) 0).toNat_lt
      have HO := Lib.hid (fun cc hcc => HM.out.odd cc hcc)
      have hga := HM.out.ne
      have hag := fun e : a = g => hga e.symm
      obtain ⟨j, hj⟩ : ∃ j, bs.length / 8 = j := ⟨_, rfl⟩
      obtain ⟨r, hr⟩ : ∃ r, bs.length % 8 = r := ⟨_, rfl⟩
      have hr8 : r < 8 := by omega
      have hdiv : (bs.length : Int) / 8 = (j : Int) := by omega
      have hj0 : (0 : Int) ≤ (j : Int) := by omega
      have hjm : (j : Int) < (m : Int) := by omega
      rw [hj, hr] at HO
      rw [hj] at cb fb hxb
      rw [hr] at h7
      generalize hby : ((Po.room bs).getD j 0).toNat = by_ at *
      clear hby h8 hz e7 hj hr HM
      have d0 : ∀ d : Nat, World.cell? { heap := W2.heap, tape := W2.tape, drawn := d, os := W2.os, output := W2.output } ⟨a, 0, none⟩ = some (.slice (some ⟨g, 0, none⟩) m cap) := fun _ => c0
      have d1 : ∀ d : Nat, World.cell? { heap := W2.heap, tape := W2.tape, drawn := d, os := W2.os, output := W2.output } ⟨a, 1, none⟩ = some (.int .i64 (bs.length : Nat)) := fun _ => c1
      have db : ∀ d : Nat, World.cell? { heap := W2.heap, tape := W2.tape, drawn := d, os := W2.os, output := W2.output } ⟨g, j, none⟩ = some (.int .u8 (by_ : Nat)) := fun _ => cb
      have hor := or_high (by_ := by_) hr8 (by omega)
      go_still_tail 19, (by kernel_rfl)
      change wpList _ _ _ _ _ W2.drew
      go_wp2
      go_end0
      exact ⟨rfl, _, by rw [hb]; exact HO.out _ rfl⟩
    · have ho : decide ((x : Int) % 2 = 1) = false := by simp; omega
      have hb : (x % 2 == 1) = false := by simp; omega
      go_enter Try.func109, Try.ntmps109
      go_wp2_with (first
        | ((with_reducible refine gate_dst (N := 16) rfl ?_); refine print_append (w0 := w) (W := w) base rfl (.tmp 14) (.tmp 15) 22 5 (.int .u8 0) 1 rfl (show Try.prog.underlying 22 = some (.slice 5) by kernel_rfl) (by kernel_rfl) rfl (by decide) (.slice A pk.length c) (vals pk) (.int .u8 0) rfl rfl rfl HROW2.out (Below.refl _ _) hbase.out hmx.out ?_
           ; intro v1 w1 hown _ hgr hat
           ; have hk1 : w1.heap[a]? = some (.cells #[.slice A pk.length c, .int .i64 (bs.length : Nat)] 135 (0, 0)) := blk_grown HBLK.out hgr (fun e => HNE.out e.symm)
           ; obtain ⟨g, cap, rfl, hgc⟩ := own_some hown (by simp)
           ; have hga : g ≠ a := new_ne HNE.out (blk_lt HBLK.out) hat
           ; have c10 : w1.cell? ⟨a, 0, none⟩ = some (.slice A pk.length c) := (blk_cell hk1 0).trans rfl
           ; have c11 : w1.cell? ⟨a, 1, none⟩ = some (.int .i64 (bs.length : Nat)) := (blk_cell hk1 1).trans rfl
           ; have f10 : w1.frozen? ⟨a, 0, none⟩ = false := blk_frozen hk1 0
           ; have f11 : w1.frozen? ⟨a, 1, none⟩ = false := blk_frozen hk1 1
           ; have HOWN := Lib.hid hown; have HGR := Lib.hid hgr; have HK1 := Lib.hid hk1; have HAT := Lib.hid hat; clear hown hgr hk1 hat))
      go_end0
      have hM := Mid.grown HW.out HPK.out h8 rfl HOWN.out HGR.out HAT.out
      rw [show (vals pk ++ [Value.int .u8 0]).length = (vals pk).length + 1 by simp] at hM
      exact ⟨rfl, _, by rw [hb]; exact hM.even⟩
  · have hz : decide (((bs.length % 8 : Nat) : Int) = 0) = false := by simp; omega
    obtain ⟨g, cap, e, hgc⟩ := own_some HROW.out (by have := HPL.out; omega)
    simp only [Value.slice.injEq] at e
    obtain ⟨rfl, -, rfl⟩ := e
    have hM := Mid.held HW.out h8 (by rw [HPK.out])
    have HM := Lib.hid hM
    clear hM
    by_cases hodd : x % 2 = 1
    · have ho : decide ((x : Int) % 2 = 1) = true := by simp; omega
      have hb : (x % 2 == 1) = true := by simp; omega
      go_enter Try.func109, Try.ntmps109
      go_wp2
      clear c0 c1 f0 f1
      have e7 := HM.out.len
      have c0 : w.cell? ⟨a, 0, none⟩ = some (.slice (some ⟨g, 0, none⟩) pk.length c) := (blk_cell HM.out.blk 0).trans rfl
      have c1 : w.cell? ⟨a, 1, none⟩ = some (.int .i64 (bs.length : Nat)) := (blk_cell HM.out.blk 1).trans rfl
      have f1 : w.frozen? ⟨a, 1, none⟩ = false := blk_frozen HM.out.blk 1
      have cb : w.cell? ⟨g, bs.length / 8, none⟩ = some (.int .u8 (((Po.room bs).getD (bs.length / 8) 0).toNat : Nat)) := by
        rw [HM.out.row.cellAt _ (by omega), vals, List.getElem?_map, List.getD_eq_getElem?_getD, List.getElem?_eq_getElem (by rw [Po.room_len]; omega)]; rfl
      have fb : w.frozen? ⟨g, bs.length / 8, none⟩ = false := HM.out.row.frozenAt _
      have hxb := ((Po.room bs).getD (bs.length / 8) 0).toNat_lt
      have HO := Lib.hid (fun cc hcc => HM.out.odd cc hcc)
      have hga := HM.out.ne
      have hag := fun e : a = g => hga e.symm
      obtain ⟨j, hj⟩ : ∃ j, bs.length / 8 = j := ⟨_, rfl⟩
      obtain ⟨r, hr⟩ : ∃ r, bs.length % 8 = r := ⟨_, rfl⟩
      have hr8 : r < 8 := by omega
      have hdiv : (bs.length : Int) / 8 = (j : Int) := by omega
      have hj0 : (0 : Int) ≤ (j : Int) := by omega
      have hjm : (j : Int) < (pk.length : Int) := by omega
      rw [hj, hr] at HO
      rw [hj] at cb fb hxb
      rw [hr] at h7
      generalize hby : ((Po.room bs).getD j 0).toNat = by_ at *
      clear hby h8 hz e7 hj hr HM
      have d0 : ∀ d : Nat, World.cell? { heap := w.heap, tape := w.tape, drawn := d, os := w.os, output := w.output } ⟨a, 0, none⟩ = some (.slice (some ⟨g, 0, none⟩) pk.length c) := fun _ => c0
      have d1 : ∀ d : Nat, World.cell? { heap := w.heap, tape := w.tape, drawn := d, os := w.os, output := w.output } ⟨a, 1, none⟩ = some (.int .i64 (bs.length : Nat)) := fun _ => c1
      have db : ∀ d : Nat, World.cell? { heap := w.heap, tape := w.tape, drawn := d, os := w.os, output := w.output } ⟨g, j, none⟩ = some (.int .u8 (by_ : Nat)) := fun _ => cb
      have hor := or_high (by_ := by_) hr8 (by omega)
      go_still_tail 19, (by kernel_rfl)
      change wpList _ _ _ _ _ w.drew
      go_wp2
      go_end0
      exact ⟨rfl, _, by rw [hb]; exact HO.out _ rfl⟩
    · have ho : decide ((x : Int) % 2 = 1) = false := by simp; omega
      have hb : (x % 2 == 1) = false := by simp; omega
      go_enter Try.func109, Try.ntmps109
      go_wp2
      go_end0
      exact ⟨rfl, _, by rw [hb]; exact HM.out.even⟩

end Go.Proofs.Ytmeojlamadcedaa

namespace Go.Proofs.Ytmeojlamadcedaa
open Go.RowKit Go.Sort Go.Proofs.YtmeojlamadcedaaW.PrintWords

/-- How many bits a number has. -/
def blen (x : Nat) : Nat := if x = 0 then 0 else x.log2 + 1
def tab : ByteArray := { data := #[0, 1, 2, 2, 3, 3, 3, 3, 4, 4, 4, 4, 4, 4, 4, 4, 5, 5, 5, 5, 5, 5, 5, 5, 5, 5, 5, 5, 5, 5, 5, 5, 6, 6, 6, 6, 6, 6, 6, 6, 6, 6, 6, 6, 6, 6, 6, 6, 6, 6, 6, 6, 6, 6, 6, 6, 6, 6, 6, 6, 6, 6, 6, 6, 7, 7, 7, 7, 7, 7, 7, 7, 7, 7, 7, 7, 7, 7, 7, 7, 7, 7, 7, 7, 7, 7, 7, 7, 7, 7, 7, 7, 7, 7, 7, 7, 7, 7, 7, 7, 7, 7, 7, 7, 7, 7, 7, 7, 7, 7, 7, 7, 7, 7, 7, 7, 7, 7, 7, 7, 7, 7, 7, 7, 7, 7, 7, 7, 8, 8, 8, 8, 8, 8, 8, 8, 8, 8, 8, 8, 8, 8, 8, 8, 8, 8, 8, 8, 8, 8, 8, 8, 8, 8, 8, 8, 8, 8, 8, 8, 8, 8, 8, 8, 8, 8, 8, 8, 8, 8, 8, 8, 8, 8, 8, 8, 8, 8, 8, 8, 8, 8, 8, 8, 8, 8, 8, 8, 8, 8, 8, 8, 8, 8, 8, 8, 8, 8, 8, 8, 8, 8, 8, 8, 8, 8, 8, 8, 8, 8, 8, 8, 8, 8, 8, 8, 8, 8, 8, 8, 8, 8, 8, 8, 8, 8, 8, 8, 8, 8, 8, 8, 8, 8, 8, 8, 8, 8, 8, 8, 8, 8, 8, 8, 8, 8, 8, 8, 8, 8, 8, 8, 8, 8, 8, 8] }
theorem tab_size : tab.size = 256 := by decide +kernel
theorem tab_all : ∀ y : Fin 256, (tab.data.getD y.val 0).toNat = blen y.val := by decide +kernel
theorem tab_at (y : Nat) (h : y < tab.size) : (tab[y]'h).toNat = blen y := by
  have h2 := tab_all ⟨y, by rw [tab_size] at h; exact h⟩
  have h3 : tab.data.getD y 0 = tab[y]'h := by
    unfold Array.getD
    rw [dif_pos (show y < tab.data.size from h)]; rfl
  rw [← h3]; exact h2
theorem blen_shift (x k : Nat) (h : x / 2 ^ k ≠ 0) : blen x = k + blen (x / 2 ^ k) := by
  have hx : x ≠ 0 := by rintro rfl; simp at h
  unfold blen
  rw [if_neg hx, if_neg h, ← Nat.add_assoc]
  congr 1
  have h1 := Nat.log2_self_le h
  have h2 := @Nat.lt_log2_self (x / 2 ^ k)
  have hp := Nat.two_pow_pos k
  have h3 : 2 ^ (k + (x / 2 ^ k).log2) ≤ x := by
    rw [Nat.pow_add, Nat.mul_comm]
    exact Nat.le_trans (Nat.mul_le_mul_right _ h1) (Nat.div_mul_le_self x (2 ^ k))
  have h4 : x < 2 ^ (k + (x / 2 ^ k).log2 + 1) := by
    rw [Nat.add_assoc, Nat.pow_add, Nat.mul_comm]
    exact (Nat.div_lt_iff_lt_mul hp).1 h2
  have h5 : k + (x / 2 ^ k).log2 ≤ x.log2 := (Nat.le_log2 hx).2 h3
  have h6 := (Nat.log2_lt hx).2 h4
  omega
theorem blen_small (y : Nat) (h : y < 256) : blen y ≤ 8 := by
  unfold blen
  split
  · omega
  · rename_i h0
    have := (Nat.log2_lt (n := y) (k := 8) h0).2 h
    omega

theorem wrap_len (k b : Nat) (hk : k ≤ 56) (hb : b ≤ 8) : RowKit.wrap64 ((k : Int) + RowKit.wrap64 (b : Int)) = ((k + b : Nat) : Int) := by
  unfold RowKit.wrap64; omega
theorem wrap_len0 (b : Nat) (hb : b ≤ 8) : RowKit.wrap64 (RowKit.wrap64 (b : Int)) = (b : Int) := by
  unfold RowKit.wrap64; omega

set_option maxHeartbeats 4000000 in
set_option maxRecDepth 100000 in
theorem len64_calls (x : Nat) (w : World) (h : x < 18446744073709551616) :
    Calls Try.prog 103 #[.int .u64 (x : Nat)] w fun e w' => e = .returned (.int .i64 (blen x : Nat)) ∧ w' = w := by
  by_cases a0 : 4294967296 ≤ x
  · by_cases a1 : 65536 ≤ (x / 4294967296)
    · by_cases a2 : 256 ≤ ((x / 4294967296) / 65536)
      · obtain ⟨x1, e0⟩ : ∃ y, x / 4294967296 = y := ⟨_, rfl⟩
        have q0 : (x : Int) / 4294967296 = (x1 : Int) := by omega
        have d0 : decide ((4294967296 : Int) ≤ (x : Int)) = true := by simp; omega
        obtain ⟨x2, e1⟩ : ∃ y, x1 / 65536 = y := ⟨_, rfl⟩
        have q1 : (x1 : Int) / 65536 = (x2 : Int) := by omega
        have d1 : decide ((65536 : Int) ≤ (x1 : Int)) = true := by simp; omega
        obtain ⟨x3, e2⟩ : ∃ y, x2 / 256 = y := ⟨_, rfl⟩
        have q2 : (x2 : Int) / 256 = (x3 : Int) := by omega
        have d2 : decide ((256 : Int) ≤ (x2 : Int)) = true := by simp; omega
        have hy : x3 < 256 := by omega
        have hbl : blen x = 56 + blen x3 := by
          have e : x / 2 ^ 56 = x3 := by rw [show (2 : Nat) ^ 56 = 72057594037927936 from rfl]; omega
          rw [blen_shift x 56 (by rw [e]; omega), e]
        have hb8 := blen_small x3 hy
        have hyz : (x3 : Int) < 256 := by omega
        have hy0 : (0 : Int) ≤ (x3 : Int) := by omega
        have Hhb8 := Lib.hid hb8
        have Hhbl := Lib.hid hbl
        clear hb8 hbl e0 e1 e2
        go_enter Try.func103, Try.ntmps103
        go_wp2
        go_ret
        refine ⟨?_, rfl⟩
        have ht := tab_at x3 (by rw [tab_size]; exact hy)
        have hb := Hhb8.out
        rw [Hhbl.out]
        refine congrArg (fun z : Int => Ending.returned (.int .i64 z)) ?_
        unfold tab at ht
        rw [ht]
        exact wrap_len 56 (blen x3) (by decide) hb
      · obtain ⟨x1, e0⟩ : ∃ y, x / 4294967296 = y := ⟨_, rfl⟩
        have q0 : (x : Int) / 4294967296 = (x1 : Int) := by omega
        have d0 : decide ((4294967296 : Int) ≤ (x : Int)) = true := by simp; omega
        obtain ⟨x2, e1⟩ : ∃ y, x1 / 65536 = y := ⟨_, rfl⟩
        have q1 : (x1 : Int) / 65536 = (x2 : Int) := by omega
        have d1 : decide ((65536 : Int) ≤ (x1 : Int)) = true := by simp; omega
        have d2 : decide ((256 : Int) ≤ (x2 : Int)) = false := by simp; omega
        have hy : x2 < 256 := by omega
        have hbl : blen x = 48 + blen x2 := by
          have e : x / 2 ^ 48 = x2 := by rw [show (2 : Nat) ^ 48 = 281474976710656 from rfl]; omega
          rw [blen_shift x 48 (by rw [e]; omega), e]
        have hb8 := blen_small x2 hy
        have hyz : (x2 : Int) < 256 := by omega
        have hy0 : (0 : Int) ≤ (x2 : Int) := by omega
        have Hhb8 := Lib.hid hb8
        have Hhbl := Lib.hid hbl
        clear hb8 hbl e0 e1
        go_enter Try.func103, Try.ntmps103
        go_wp2
        go_ret
        refine ⟨?_, rfl⟩
        have ht := tab_at x2 (by rw [tab_size]; exact hy)
        have hb := Hhb8.out
        rw [Hhbl.out]
        refine congrArg (fun z : Int => Ending.returned (.int .i64 z)) ?_
        unfold tab at ht
        rw [ht]
        exact wrap_len 48 (blen x2) (by decide) hb
    · by_cases a2 : 256 ≤ (x / 4294967296)
      · obtain ⟨x1, e0⟩ : ∃ y, x / 4294967296 = y := ⟨_, rfl⟩
        have q0 : (x : Int) / 4294967296 = (x1 : Int) := by omega
        have d0 : decide ((4294967296 : Int) ≤ (x : Int)) = true := by simp; omega
        have d1 : decide ((65536 : Int) ≤ (x1 : Int)) = false := by simp; omega
        obtain ⟨x3, e2⟩ : ∃ y, x1 / 256 = y := ⟨_, rfl⟩
        have q2 : (x1 : Int) / 256 = (x3 : Int) := by omega
        have d2 : decide ((256 : Int) ≤ (x1 : Int)) = true := by simp; omega
        have hy : x3 < 256 := by omega
        have hbl : blen x = 40 + blen x3 := by
          have e : x / 2 ^ 40 = x3 := by rw [show (2 : Nat) ^ 40 = 1099511627776 from rfl]; omega
          rw [blen_shift x 40 (by rw [e]; omega), e]
        have hb8 := blen_small x3 hy
        have hyz : (x3 : Int) < 256 := by omega
        have hy0 : (0 : Int) ≤ (x3 : Int) := by omega
        have Hhb8 := Lib.hid hb8
        have Hhbl := Lib.hid hbl
        clear hb8 hbl e0 e2
        go_enter Try.func103, Try.ntmps103
        go_wp2
        go_ret
        refine ⟨?_, rfl⟩
        have ht := tab_at x3 (by rw [tab_size]; exact hy)
        have hb := Hhb8.out
        rw [Hhbl.out]
        refine congrArg (fun z : Int => Ending.returned (.int .i64 z)) ?_
        unfold tab at ht
        rw [ht]
        exact wrap_len 40 (blen x3) (by decide) hb
      · obtain ⟨x1, e0⟩ : ∃ y, x / 4294967296 = y := ⟨_, rfl⟩
        have q0 : (x : Int) / 4294967296 = (x1 : Int) := by omega
        have d0 : decide ((4294967296 : Int) ≤ (x : Int)) = true := by simp; omega
        have d1 : decide ((65536 : Int) ≤ (x1 : Int)) = false := by simp; omega
        have d2 : decide ((256 : Int) ≤ (x1 : Int)) = false := by simp; omega
        have hy : x1 < 256 := by omega
        have hbl : blen x = 32 + blen x1 := by
          have e : x / 2 ^ 32 = x1 := by rw [show (2 : Nat) ^ 32 = 4294967296 from rfl]; omega
          rw [blen_shift x 32 (by rw [e]; omega), e]
        have hb8 := blen_small x1 hy
        have hyz : (x1 : Int) < 256 := by omega
        have hy0 : (0 : Int) ≤ (x1 : Int) := by omega
        have Hhb8 := Lib.hid hb8
        have Hhbl := Lib.hid hbl
        clear hb8 hbl e0
        go_enter Try.func103, Try.ntmps103
        go_wp2
        go_ret
        refine ⟨?_, rfl⟩
        have ht := tab_at x1 (by rw [tab_size]; exact hy)
        have hb := Hhb8.out
        rw [Hhbl.out]
        refine congrArg (fun z : Int => Ending.returned (.int .i64 z)) ?_
        unfold tab at ht
        rw [ht]
        exact wrap_len 32 (blen x1) (by decide) hb
  · by_cases a1 : 65536 ≤ x
    · by_cases a2 : 256 ≤ (x / 65536)
      · have d0 : decide ((4294967296 : Int) ≤ (x : Int)) = false := by simp; omega
        obtain ⟨x2, e1⟩ : ∃ y, x / 65536 = y := ⟨_, rfl⟩
        have q1 : (x : Int) / 65536 = (x2 : Int) := by omega
        have d1 : decide ((65536 : Int) ≤ (x : Int)) = true := by simp; omega
        obtain ⟨x3, e2⟩ : ∃ y, x2 / 256 = y := ⟨_, rfl⟩
        have q2 : (x2 : Int) / 256 = (x3 : Int) := by omega
        have d2 : decide ((256 : Int) ≤ (x2 : Int)) = true := by simp; omega
        have hy : x3 < 256 := by omega
        have hbl : blen x = 24 + blen x3 := by
          have e : x / 2 ^ 24 = x3 := by rw [show (2 : Nat) ^ 24 = 16777216 from rfl]; omega
          rw [blen_shift x 24 (by rw [e]; omega), e]
        have hb8 := blen_small x3 hy
        have hyz : (x3 : Int) < 256 := by omega
        have hy0 : (0 : Int) ≤ (x3 : Int) := by omega
        have Hhb8 := Lib.hid hb8
        have Hhbl := Lib.hid hbl
        clear hb8 hbl e1 e2
        go_enter Try.func103, Try.ntmps103
        go_wp2
        go_ret
        refine ⟨?_, rfl⟩
        have ht := tab_at x3 (by rw [tab_size]; exact hy)
        have hb := Hhb8.out
        rw [Hhbl.out]
        refine congrArg (fun z : Int => Ending.returned (.int .i64 z)) ?_
        unfold tab at ht
        rw [ht]
        exact wrap_len 24 (blen x3) (by decide) hb
      · have d0 : decide ((4294967296 : Int) ≤ (x : Int)) = false := by simp; omega
        obtain ⟨x2, e1⟩ : ∃ y, x / 65536 = y := ⟨_, rfl⟩
        have q1 : (x : Int) / 65536 = (x2 : Int) := by omega
        have d1 : decide ((65536 : Int) ≤ (x : Int)) = true := by simp; omega
        have d2 : decide ((256 : Int) ≤ (x2 : Int)) = false := by simp; omega
        have hy : x2 < 256 := by omega
        have hbl : blen x = 16 + blen x2 := by
          have e : x / 2 ^ 16 = x2 := by rw [show (2 : Nat) ^ 16 = 65536 from rfl]; omega
          rw [blen_shift x 16 (by rw [e]; omega), e]
        have hb8 := blen_small x2 hy
        have hyz : (x2 : Int) < 256 := by omega
        have hy0 : (0 : Int) ≤ (x2 : Int) := by omega
        have Hhb8 := Lib.hid hb8
        have Hhbl := Lib.hid hbl
        clear hb8 hbl e1
        go_enter Try.func103, Try.ntmps103
        go_wp2
        go_ret
        refine ⟨?_, rfl⟩
        have ht := tab_at x2 (by rw [tab_size]; exact hy)
        have hb := Hhb8.out
        rw [Hhbl.out]
        refine congrArg (fun z : Int => Ending.returned (.int .i64 z)) ?_
        unfold tab at ht
        rw [ht]
        exact wrap_len 16 (blen x2) (by decide) hb
    · by_cases a2 : 256 ≤ x
      · have d0 : decide ((4294967296 : Int) ≤ (x : Int)) = false := by simp; omega
        have d1 : decide ((65536 : Int) ≤ (x : Int)) = false := by simp; omega
        obtain ⟨x3, e2⟩ : ∃ y, x / 256 = y := ⟨_, rfl⟩
        have q2 : (x : Int) / 256 = (x3 : Int) := by omega
        have d2 : decide ((256 : Int) ≤ (x : Int)) = true := by simp; omega
        have hy : x3 < 256 := by omega
        have hbl : blen x = 8 + blen x3 := by
          have e : x / 2 ^ 8 = x3 := by rw [show (2 : Nat) ^ 8 = 256 from rfl]; omega
          rw [blen_shift x 8 (by rw [e]; omega), e]
        have hb8 := blen_small x3 hy
        have hyz : (x3 : Int) < 256 := by omega
        have hy0 : (0 : Int) ≤ (x3 : Int) := by omega
        have Hhb8 := Lib.hid hb8
        have Hhbl := Lib.hid hbl
        clear hb8 hbl e2
        go_enter Try.func103, Try.ntmps103
        go_wp2
        go_ret
        refine ⟨?_, rfl⟩
        have ht := tab_at x3 (by rw [tab_size]; exact hy)
        have hb := Hhb8.out
        rw [Hhbl.out]
        refine congrArg (fun z : Int => Ending.returned (.int .i64 z)) ?_
        unfold tab at ht
        rw [ht]
        exact wrap_len 8 (blen x3) (by decide) hb
      · have d0 : decide ((4294967296 : Int) ≤ (x : Int)) = false := by simp; omega
        have d1 : decide ((65536 : Int) ≤ (x : Int)) = false := by simp; omega
        have d2 : decide ((256 : Int) ≤ (x : Int)) = false := by simp; omega
        have hy : x < 256 := by omega
        have hb8 := blen_small x hy
        have hyz : (x : Int) < 256 := by omega
        have hy0 : (0 : Int) ≤ (x : Int) := by omega
        have Hhb8 := Lib.hid hb8
        clear hb8
        go_enter Try.func103, Try.ntmps103
        go_wp2
        go_ret
        refine ⟨?_, rfl⟩
        have ht := tab_at x (by rw [tab_size]; exact hy)
        have hb := Hhb8.out
        refine congrArg (fun z : Int => Ending.returned (.int .i64 z)) ?_
        unfold tab at ht
        rw [ht]
        exact wrap_len0 (blen x) hb

end Go.Proofs.Ytmeojlamadcedaa

namespace Go.Proofs.Ytmeojlamadcedaa
open Go.RowKit Go.Sort Go.Proofs.YtmeojlamadcedaaW.PrintWords

set_option maxHeartbeats 2000000 in
set_option maxRecDepth 100000 in
theorem lowest_calls (base a : Nat) (v : Value) (bs : List Bool) (x n : Nat) (w : World) (hW : Wr base w a v bs) (hx : x < 18446744073709551616) (hn : n ≤ 64) (hl : bs.length < 100000000000) :
    Calls Try.prog 105 #[.pointer (some ⟨a, 0, none⟩), .int .u64 (x : Nat), .int .i64 (n : Nat)] w fun e w' => e = .returned (.tuple #[]) ∧ ∃ v', Wr base w' a v' (bs ++ Po.low x n) ∧ Nx a v w v' w' := by
  have HW := Lib.hid hW
  have hx0 : (0 : Int) ≤ (x : Int) := by omega
  clear hW
  go_enter Try.func105, Try.ntmps105
  have hn1 : RowKit.wrap64 ((n : Int) - 1) = (n : Int) - 1 := by unfold RowKit.wrap64; omega
  go_wp2
  go_loopg [6] n (fun kx s6 wr => ∃ (j : Nat) (B : List Bool) (v' : Value) (W : World), W = wr ∧ s6 = .int .i64 ((j : Int) - 1) ∧ j ≤ n ∧ j ≤ kx ∧ Wr base wr a v' (bs ++ B) ∧ Nx a v w v' wr ∧ B ++ Po.low x j = Po.low x n)
  case atStart => exact ⟨n, [], v, _, rfl, rfl, Nat.le_refl _, Nat.le_refl _, by rw [List.append_nil]; exact HW.out, Nx.refl _ _ _, by rw [List.nil_append]⟩
  case round =>
    obtain ⟨j, B, v', W, rfl, rfl, hj, hk, hWr, hNx, hB⟩ := hrel
    have HWr := Lib.hid hWr
    have HNx := Lib.hid hNx
    have HB := Lib.hid hB
    clear hWr hNx hB
    cases j with
    | zero =>
      have hz : decide ((((0 : Nat) : Int) - 1) ≥ 0) = false := by decide
      go_wp2
      go_end0
      have h := HB.out
      rw [Po.low, List.append_nil] at h
      exact ⟨rfl, v', by rw [← h]; exact HWr.out, HNx.out⟩
    | succ j =>
      have e1 : (((j + 1 : Nat) : Int) - 1) = (j : Int) := by omega
      rw [e1]
      have hz : decide (((j : Nat) : Int) ≥ 0) = true := by simp
      have hj0 : (0 : Int) ≤ (j : Int) := by omega
      have hj64 : (j : Int) ≤ 64 := by omega
      have hj1 : RowKit.wrap64 ((j : Int) - 1) = (j : Int) - 1 := by unfold RowKit.wrap64; omega
      have hBl : B.length ≤ 64 := by
        have h := congrArg List.length HB.out
        rw [List.length_append, Po.low_len, Po.low_len] at h; omega
      have hsh : (x : Int) / 2 ^ j = ((x / 2 ^ j : Nat) : Int) := by rw [Int.natCast_ediv, Int.natCast_pow]; rfl
      have hxs : x / 2 ^ j < 18446744073709551616 := Nat.lt_of_le_of_lt (Nat.div_le_self _ _) hx
      have HP : Hid (∀ W2 : World, Below W.heap.size W W2 → Calls Try.prog 109 #[.pointer (some ⟨a, 0, none⟩), .int .u64 ((x : Int) / 2 ^ j)] W2 fun e w' => e = .returned (.tuple #[]) ∧ ∃ v'', Wr base w' a v'' (bs ++ (B ++ [x.testBit j])) ∧ Nx a v w v'' w') := Lib.hid (fun W2 hW2 => by
        rw [hsh]
        refine (put_calls base a v' (bs ++ B) (x / 2 ^ j) W2 (HWr.out.later hW2) hxs (by rw [List.length_append]; omega)).mono fun e w' hq => ?_
        obtain ⟨he, v'', h1, h2⟩ := hq
        refine ⟨he, v'', ?_, (Nx.trans ⟨HNx.out.fr.trans (Fr.ofBelow (S := fun _ => False) hW2) (fun _ _ h => h.elim), ?_⟩ h2)⟩
        · have e : (x / 2 ^ j % 2 == 1) = x.testBit j := by rw [Nat.testBit_eq_decide_div_mod_eq]; rfl
          rw [e, List.append_assoc] at h1; exact h1
        · exact HNx.out.row)
      clear hsh hxs hBl
      go_wp2
      go_still_tail 6, (by kernel_rfl)
      change wpList _ _ _ _ _ W.drew
      go_wp2_with (go_at_call 109; (with_reducible refine (HP.out _ ((Below.refl _ _).drew)).mono ?_); rintro e w2 ⟨rfl, v2, hw2, hn2⟩; have HW2 := Lib.hid hw2; have HN2 := Lib.hid hn2; clear hw2 hn2)
      go_roundg j
      case measure => omega
      case rel => exact ⟨j, B ++ [x.testBit j], v2, _, rfl, rfl, by omega, by omega, HW2.out, HN2.out, by rw [← HB.out, List.append_assoc]; rfl⟩

theorem low_zero : ∀ n, Po.low 0 n = List.replicate n false
  | 0 => rfl
  | n + 1 => by rw [Po.low, low_zero n, List.replicate_succ, Nat.zero_testBit]
theorem blen_log {x : Nat} (h : x ≠ 0) : blen x = x.log2 + 1 := by unfold blen; rw [if_neg h]
theorem log_le {x : Nat} (h : x ≠ 0) (hx : x < 18446744073709551616) : x.log2 ≤ 63 := Po.log2_small h hx

set_option maxHeartbeats 2000000 in
set_option maxRecDepth 100000 in
theorem gammaW_calls (base a : Nat) (v : Value) (bs : List Bool) (x : Nat) (w : World) (hW : Wr base w a v bs) (hx0 : x ≠ 0) (hx : x < 18446744073709551616) (hl : bs.length < 10000000000) :
    Calls Try.prog 104 #[.pointer (some ⟨a, 0, none⟩), .int .u64 (x : Nat)] w fun e w' => e = .returned (.int .i64 0) ∧ ∃ v', Wr base w' a v' (bs ++ Po.gamma x) ∧ Nx a v w v' w' := by
  have hz : ¬ ((x : Int) = 0) := by omega
  have hz2 : ((x : Int) == 0) = false := by simp; omega
  have HL : Hid (Calls Try.prog 103 #[.int .u64 (x : Nat)] w fun e w' => e = .returned (.int .i64 ((x.log2 : Nat) + 1 : Int)) ∧ w' = w) := Lib.hid (by
    have h := len64_calls x w hx
    rw [blen_log hx0] at h
    exact h)
  have hlg := log_le hx0 hx
  have H1 : Hid (Calls Try.prog 105 #[.pointer (some ⟨a, 0, none⟩), .int .u64 0, .int .i64 (x.log2 : Nat)] w fun e w' => e = .returned (.tuple #[]) ∧ ∃ v', Wr base w' a v' (bs ++ Po.low 0 x.log2) ∧ Nx a v w v' w') := Lib.hid (by
    have h := lowest_calls base a v bs 0 x.log2 w hW (by decide) (by omega) (by omega)
    exact h)
  have H2 : Hid (∀ v1 W, Wr base W a v1 (bs ++ Po.low 0 x.log2) → Calls Try.prog 105 #[.pointer (some ⟨a, 0, none⟩), .int .u64 (x : Nat), .int .i64 ((x.log2 : Nat) + 1 : Int)] W fun e w' => e = .returned (.tuple #[]) ∧ ∃ v', Wr base w' a v' (bs ++ Po.gamma x) ∧ Nx a v1 W v' w') := Lib.hid (fun v1 W h1 => by
    have h := lowest_calls base a v1 (bs ++ Po.low 0 x.log2) x (x.log2 + 1) W h1 hx (by omega) (by rw [List.length_append, Po.low_len]; omega)
    have e : bs ++ Po.low 0 x.log2 ++ Po.low x (x.log2 + 1) = bs ++ Po.gamma x := by rw [List.append_assoc, low_zero]; rfl
    rw [e] at h
    exact h)
  obtain ⟨n, hn⟩ : ∃ n, x.log2 = n := ⟨_, rfl⟩
  rw [hn] at hlg HL H1 H2
  have hw1 : RowKit.wrap64 ((n : Int) + 1 - 1) = (n : Int) := by unfold RowKit.wrap64; omega
  have hw3 : RowKit.wrap64 ((n : Int)) = (n : Int) := by unfold RowKit.wrap64; omega
  have hw2 : RowKit.wrap64 ((n : Int) + 1) = (n : Int) + 1 := by unfold RowKit.wrap64; omega
  clear hW hn hx0 hx hl
  go_enter Try.func104, Try.ntmps104
  go_wp2_with (first
    | (go_at_call 103; (with_reducible refine HL.out.mono ?_); rintro e w' ⟨rfl, rfl⟩)
    | (go_at_call_of 105 (Value.int .u64 0); (with_reducible refine H1.out.mono ?_); rintro e w1 ⟨rfl, v1, h1, n1⟩; have HW1 := Lib.hid h1; have HN1 := Lib.hid n1; clear h1 n1)
    | (go_at_call 105; (with_reducible refine (H2.out _ _ HW1.out).mono ?_); rintro e w2 ⟨rfl, v2, h2, n2⟩; have HW2 := Lib.hid h2; have HN2 := Lib.hid n2; clear h2 n2))
  go_ret
  exact ⟨rfl, v2, HW2.out, HN1.out.trans HN2.out⟩

set_option maxHeartbeats 2000000 in
set_option maxRecDepth 100000 in
theorem deltaW_calls (base a : Nat) (v : Value) (bs : List Bool) (x : Nat) (w : World) (hW : Wr base w a v bs) (hx0 : x ≠ 0) (hx : x < 18446744073709551616) (hl : bs.length < 1000000000) :
    Calls Try.prog 92 #[.pointer (some ⟨a, 0, none⟩), .int .u64 (x : Nat)] w fun e w' => e = .returned (.int .i64 0) ∧ ∃ v', Wr base w' a v' (bs ++ Po.delta x) ∧ Nx a v w v' w' := by
  have hz : ¬ ((x : Int) = 0) := by omega
  have hz2 : ((x : Int) == 0) = false := by simp; omega
  have HL : Hid (Calls Try.prog 103 #[.int .u64 (x : Nat)] w fun e w' => e = .returned (.int .i64 ((x.log2 : Nat) + 1 : Int)) ∧ w' = w) := Lib.hid (by
    have h := len64_calls x w hx
    rw [blen_log hx0] at h
    exact h)
  have hlg := log_le hx0 hx
  have H1 : Hid (Calls Try.prog 104 #[.pointer (some ⟨a, 0, none⟩), .int .u64 ((x.log2 : Nat) + 1 : Int)] w fun e w' => e = .returned (.int .i64 0) ∧ ∃ v', Wr base w' a v' (bs ++ Po.gamma (x.log2 + 1)) ∧ Nx a v w v' w') := Lib.hid (by
    have h := gammaW_calls base a v bs (x.log2 + 1) w hW (by omega) (by omega) (by omega)
    exact h)
  have H2 : Hid (∀ v1 W, Wr base W a v1 (bs ++ Po.gamma (x.log2 + 1)) → Calls Try.prog 105 #[.pointer (some ⟨a, 0, none⟩), .int .u64 (x : Nat), .int .i64 (x.log2 : Nat)] W fun e w' => e = .returned (.tuple #[]) ∧ ∃ v', Wr base w' a v' (bs ++ Po.delta x) ∧ Nx a v1 W v' w') := Lib.hid (fun v1 W h1 => by
    have hg : (Po.gamma (x.log2 + 1)).length ≤ 200 := by
      have := log_le (x := x.log2 + 1) (by omega) (by omega)
      unfold Po.gamma
      rw [List.length_append, List.length_replicate, Po.low_len]; omega
    have h := lowest_calls base a v1 (bs ++ Po.gamma (x.log2 + 1)) x x.log2 W h1 hx (by omega) (by rw [List.length_append]; omega)
    rw [List.append_assoc] at h
    exact h)
  obtain ⟨n, hn⟩ : ∃ n, x.log2 = n := ⟨_, rfl⟩
  rw [hn] at hlg HL H1 H2
  have hw1 : RowKit.wrap64 ((n : Int) + 1 - 1) = (n : Int) := by unfold RowKit.wrap64; omega
  have hw3 : RowKit.wrap64 ((n : Int)) = (n : Int) := by unfold RowKit.wrap64; omega
  have hw2 : RowKit.wrap64 ((n : Int) + 1) = (n : Int) + 1 := by unfold RowKit.wrap64; omega
  have hw4 : IntKind.u64.wrap ((n : Int) + 1) = (n : Int) + 1 := by rw [show (n : Int) + 1 = ((n + 1 : Nat) : Int) from rfl]; simp [IntKind.wrap, IntKind.bits, IntKind.signed]; omega
  have hn0 : (0 : Int) ≤ (n : Int) + 1 := by omega
  have hn1 : (n : Int) + 1 < 18446744073709551616 := by omega
  clear hW hn hx0 hx hl
  go_enter Try.func92, Try.ntmps92
  go_wp2_with (first
    | (go_at_call 103; (with_reducible refine HL.out.mono ?_); rintro e w' ⟨rfl, rfl⟩)
    | (go_at_call 104; (with_reducible refine H1.out.mono ?_); rintro e w1 ⟨rfl, v1, h1, n1⟩; have HW1 := Lib.hid h1; have HN1 := Lib.hid n1; clear h1 n1)
    | (go_at_call 105; (with_reducible refine (H2.out _ _ HW1.out).mono ?_); rintro e w2 ⟨rfl, v2, h2, n2⟩; have HW2 := Lib.hid h2; have HN2 := Lib.hid n2; clear h2 n2))
  go_ret
  exact ⟨rfl, v2, HW2.out, HN1.out.trans HN2.out⟩

/-- stream.size, for a Writer and for a Reader. -/
theorem size_calls (a n : Nat) (w : World) (h : w.cell? ⟨a, 1, none⟩ = some (.int .i64 n)) :
    Calls Try.prog 102 #[.pointer (some ⟨a, 0, none⟩)] w fun e w' => e = .returned (.int .i64 n) ∧ w' = w := by
  go_enter Try.func102, Try.ntmps102
  go_wp2
  go_ret
  exact ⟨rfl, rfl⟩

theorem lenW_calls (a n : Nat) (w : World) (h : w.cell? ⟨a, 1, none⟩ = some (.int .i64 n)) :
    Calls Try.prog 91 #[.pointer (some ⟨a, 0, none⟩)] w fun e w' => e = .returned (.int .i64 n) ∧ w' = w := by
  have H := Lib.hid (size_calls a n w h)
  clear h
  go_enter Try.func91, Try.ntmps91
  go_wp2_with (go_at_call 102; (with_reducible refine H.out.mono ?_); rintro e w' ⟨rfl, rfl⟩)
  go_ret
  exact ⟨rfl, rfl⟩

set_option maxRecDepth 100000 in
theorem newW_calls (w : World) :
    Calls Try.prog 90 #[] w fun e w' => ∃ a, e = .returned (.pointer (some ⟨a, 0, none⟩)) ∧ Wr w.heap.size w' a (.slice none 0 0) [] ∧ Below w.heap.size w w' := by
  go_enter Try.func90, Try.ntmps90
  go_wp2
  go_ret
  refine ⟨_, rfl, ⟨Nat.le_refl _, ?_, ?_, fun h => by cases h⟩, (Below.refl _ w).alloc (Nat.le_refl _) _⟩
  · exact (blk_new w _)
  · rw [Po.pack_nil]; exact World.ownsRow_nil _ _ _ _

theorem vals_nums (l : List UInt8) : vals l = nums .u8 (Given.ints l) := by
  unfold vals Given.ints nums; rw [List.map_map]; rfl

end Go.Proofs.Ytmeojlamadcedaa

namespace Go.Proofs.Ytmeojlamadcedaa
open Go.RowKit Go.Sort Go.Proofs.YtmeojlamadcedaaW.PrintWords

theorem own_vals {w : World} {base n : Nat} {v : Value} {l : List UInt8} (h : w.ownsRow base 5 1 v n (vals l)) : w.ownsRow base 5 1 v (Given.ints l).length (nums .u8 (Given.ints l)) := by
  have hl : n = l.length := by have := h.1; simp [vals] at this; omega
  subst hl
  rw [← vals_nums, Given.ints_len]; exact h
theorem vals_own {w : World} {base n : Nat} {v : Value} {l : List UInt8} (hn : n = l.length) (h : w.ownsRow base 5 1 v (Given.ints l).length (nums .u8 (Given.ints l))) : w.ownsRow base 5 1 v n (vals l) := by
  subst hn
  rw [← vals_nums, Given.ints_len] at h; exact h
theorem own_reads8 {w : World} {base n c : Nat} {A : Option Addr} {l : List UInt8} (h : w.ownsRow base 5 1 (.slice A n c) n (vals l)) : ReadsInt w .u8 A n (Given.ints l) := by
  have hl : n = l.length := by have := h.1; simp [vals] at this; omega
  subst hl
  have h2 := own_vals h
  rw [Given.ints_len] at h2
  have h3 := own_reads' h2
  exact h3

set_option maxHeartbeats 2000000 in
set_option maxRecDepth 100000 in
theorem bytesW_calls (base a : Nat) (v : Value) (bs : List Bool) (w : World) (hW : Wr base w a v bs) (hl : bs.length < 1000000000) :
    Calls Try.prog 93 #[.pointer (some ⟨a, 0, none⟩)] w fun e w' => ∃ v', e = .returned v' ∧ w'.ownsRow w.heap.size 5 1 v' (Po.pack bs).length (vals (Po.pack bs)) ∧ Below w.heap.size w w' := by
  obtain ⟨A, c, rfl⟩ := own_slice hW.row
  have c0 : w.cell? ⟨a, 0, none⟩ = some (.slice A (Po.pack bs).length c) := (blk_cell hW.blk 0).trans rfl
  have HR : Hid (ReadsInt (w.alloc (.cells #[] 5)) .u8 A (Po.pack bs).length (Given.ints (Po.pack bs))) := Lib.hid ((own_reads8 hW.row).allocS _)
  have hpl := Po.pack_len bs
  have hmx : Hid ((([] : List Int).length + (Po.pack bs).length) * 1 ≤ 140737488355328) := Lib.hid (by simp; omega)
  have HO : Hid ((w.alloc (.cells #[] 5)).ownsRow w.heap.size 5 1 (.slice (some ⟨w.heap.size, 0, none⟩) 0 0) ([] : List Int).length (nums .u8 [])) := Lib.hid (World.ownsRow_lit w #[] 0 (Nat.le_refl _) (by simp [maxLen]) rfl)
  have hab : a < w.heap.size := blk_lt hW.blk
  have hne : w.heap.size ≠ a := by omega
  clear hW hpl
  generalize hp : Po.pack bs = pk at *
  go_enter Try.func93, Try.ntmps93
  go_wp2_with (first
    | ((with_reducible refine gate_dst (N := 9) rfl ?_); refine print_append_row (w0 := w) (W := w.alloc (.cells #[] 5)) w.heap.size rfl (.tmp 3) (.tmp 8) 22 5 .u8 1 rfl (show Try.prog.underlying 22 = some (.slice 5) by kernel_rfl) (by kernel_rfl) (by decide) (.slice (some ⟨w.heap.size, 0, none⟩) 0 0) [] (Given.ints pk) A pk.length c rfl rfl HO.out HR.out ((Below.refl _ w).alloc (Nat.le_refl _) _) (by simp) hmx.out ?_
       ; intro v1 w1 hown hb _ _; have HOWN := Lib.hid hown; have HBEL := Lib.hid hb; clear hown hb))
  go_ret
  exact ⟨v1, rfl, vals_own rfl (by have := HOWN.out; rwa [List.nil_append] at this), HBEL.out⟩

end Go.Proofs.Ytmeojlamadcedaa
