/- postings.Build: a list of positions in memory.
   Conditions: those of the theorems. -/
import Derived.Test.YtmeojlamadcedaaBiW
import Derived.Test.YtmeojlamadcedaaPoPure
namespace Go.Proofs.Ytmeojlamadcedaa
set_option linter.unusedSimpArgs false
open Go.RowKit Go.Sort Go.Proofs.YtmeojlamadcedaaW.PrintWords Go.Proofs.YtmeojlamadcedaaW.PrintLast

theorem own_apart {w : World} {base n a : Nat} {e t : TypeId} {size : Nat} {v : Value} {xs : List Value} {cs : Array Value} (h : w.ownsRow base e size v n xs) (hb : w.heap[a]? = some (.cells cs t (0, 0))) (hne : e ≠ t) : v.ownBlock ≠ some a := by
  rcases h.2 with ⟨rfl, _⟩ | ⟨g, cap, cur, rfl, _, hg, _⟩
  · intro h; cases h
  · intro h
    have e2 := Option.some.inj h
    exact blk_ne hg hb hne e2
theorem own_own {w : World} {base base' n n' : Nat} {e e' : TypeId} {size size' : Nat} {v v' : Value} {xs xs' : List Value} (h : w.ownsRow base e size v n xs) (h' : w.ownsRow base' e' size' v' n' xs') (hne : e ≠ e') (k : Nat) (hk : v.ownBlock = some k) : v'.ownBlock ≠ some k := by
  rcases h.2 with ⟨rfl, _⟩ | ⟨g, cap, cur, rfl, _, hg, _⟩
  · cases hk
  · obtain rfl := Option.some.inj hk
    exact own_apart h' hg (Ne.symm hne)

/-- The skip table's cells. -/
def skv (l : List Int) : Nat → List Value
  | 0 => []
  | k + 1 => skv l k ++ [.int .i64 (Po.skipAt l k).1, .int .i64 ((Po.skipAt l k).2 : Nat)]
theorem skv_len (l : List Int) : ∀ k, (skv l k).length = k * 2
  | 0 => rfl
  | k + 1 => by rw [skv, List.length_append, skv_len l k]; simp; omega
theorem skv_at (l : List Int) (j : Nat) : ∀ k, j < k → (skv l k)[2 * j]? = some (.int .i64 (Po.skipAt l j).1) ∧ (skv l k)[2 * j + 1]? = some (.int .i64 ((Po.skipAt l j).2 : Nat))
  | 0, h => by omega
  | k + 1, h => by
    have hl := skv_len l k
    rw [skv]
    rcases Nat.lt_or_ge j k with h1 | h1
    · rw [List.getElem?_append_left (by omega), List.getElem?_append_left (by omega)]
      exact skv_at l j k h1
    · obtain rfl : j = k := by omega
      rw [List.getElem?_append_right (by omega), List.getElem?_append_right (by omega), hl]
      rw [show 2 * j - j * 2 = 0 by omega, show 2 * j + 1 - j * 2 = 1 by omega]
      exact ⟨rfl, rfl⟩

/-- A list of positions at block a. -/
structure IsList (base : Nat) (w : World) (a : Nat) (gv sv : Value) (l : List Int) : Prop where
  low : base ≤ a
  valid : Po.Valid l
  len : l.length ≤ 4096
  blk : w.heap[a]? = some (.cells #[.int .i64 (l.length : Nat), .int .i64 ((Po.bits l l.length).length : Nat), gv, sv] 92 (0, 0))
  gaps : w.ownsRow base 5 1 gv (Po.pack (Po.bits l l.length)).length (vals (Po.pack (Po.bits l l.length)))
  skips : w.ownsRow base 94 2 sv (Po.cnt l.length) (skv l (Po.cnt l.length))
theorem own_later {w w1 : World} {base n : Nat} {e : TypeId} {size : Nat} {v : Value} {xs : List Value} (h : w.ownsRow base e size v n xs) (hb : Below w.heap.size w w1) : w1.ownsRow base e size v n xs :=
  (Fr.ofBelow (S := fun _ => False) hb).own h (fun _ _ h => h)
theorem IsList.later {base : Nat} {w w1 : World} {a : Nat} {gv sv : Value} {l : List Int} (h : IsList base w a gv sv l) (hb : Below w.heap.size w w1) : IsList base w1 a gv sv l :=
  ⟨h.low, h.valid, h.len, blk_below h.blk hb, own_later h.gaps hb, own_later h.skips hb⟩

/-- Build, i positions written. -/
structure Bd (w0 : World) (l : List Int) (la wa i k : Nat) (wr : World) (v sv : Value) : Prop where
  bel : Below w0.heap.size w0 wr
  low : w0.heap.size ≤ la
  blk : wr.heap[la]? = some (.cells #[.int .i64 (l.length : Nat), .int .i64 0, .slice none 0 0, sv] 92 (0, 0))
  wrt : Wr w0.heap.size wr wa v (Po.bits l i)
  sk : wr.ownsRow w0.heap.size 94 2 sv k (skv l k)
theorem Bd.delta {w0 : World} {l : List Int} {la wa i k : Nat} {wr w' : World} {v v' sv : Value} (h : Bd w0 l la wa i k wr v sv) (hn : Nx wa v wr v' w') :
    w'.heap[la]? = some (.cells #[.int .i64 (l.length : Nat), .int .i64 0, .slice none 0 0, sv] 92 (0, 0)) ∧ w'.ownsRow w0.heap.size 94 2 sv k (skv l k) ∧ Below w0.heap.size w0 w' := by
  have h1 : la ≠ wa := blk_ne h.blk h.wrt.blk (by decide)
  have h2 := own_apart h.wrt.row h.blk (by decide)
  have h3 := own_apart h.sk h.wrt.blk (by decide)
  refine ⟨hn.fr.blk h.blk ?_, hn.fr.own h.sk ?_, Fr.after h.bel hn.fr h.bel.size ?_⟩
  · rintro (e | e)
    · exact h1 e
    · exact h2 e
  · rintro k hk (e | e)
    · exact h3 (e ▸ hk)
    · exact own_own h.sk h.wrt.row (by decide) k hk e
  · intro k hk hs
    have := h.wrt.its k hs
    omega
/-- Behind the append to the skip table. -/
structure Bq (w0 : World) (l : List Int) (la wa i k : Nat) (w4 : World) (v sv sv1 : Value) : Prop where
  c3 : w4.cell? ⟨la, 3, none⟩ = some sv
  f3 : w4.frozen? ⟨la, 3, none⟩ = false
  fin : Bd w0 l la wa i (k + 1) (w4.setCell ⟨la, 3, none⟩ sv1) v sv1
theorem Bd.grown {w0 : World} {l : List Int} {la wa i k : Nat} {wr w4 : World} {v sv sv1 : Value} {p : Int} {bt : Nat} (h : Bd w0 l la wa i k wr v sv) (hk : 16 * k = i) (hp : l.getD i 0 = p) (hbt : (Po.bits l i).length = bt)
    (hown : w4.ownsRow w0.heap.size 94 2 sv1 (k + 1) (skv l k ++ [.int .i64 p, .int .i64 (bt : Nat)])) (hbel : Below w0.heap.size w0 w4) (hgr : wr.drew.grownBy w4 sv.ownBlock) : Bq w0 l la wa i k w4 v sv sv1 := by
  have h1 : la ≠ wa := blk_ne h.blk h.wrt.blk (by decide)
  have hs1 := own_apart h.sk h.blk (by decide)
  have hs2 := own_apart h.sk h.wrt.blk (by decide)
  have hb4 : w4.heap[la]? = _ := blk_grown (w := wr.drew) h.blk hgr (fun e => hs1 e.symm)
  have hw4 : w4.heap[wa]? = _ := blk_grown (w := wr.drew) h.wrt.blk hgr (fun e => hs2 e.symm)
  have hg0 : Fr (fun k => sv.ownBlock = some k) wr w4 := ⟨hgr.os, hgr.tape, hgr.output, hgr.size, fun k hk hn => hgr.block k hk (fun e => hn e.symm)⟩
  have hr4 := hg0.own h.wrt.row (fun k hk => own_own h.wrt.row h.sk (by decide) k hk)
  refine ⟨(blk_cell hb4 3).trans rfl, blk_frozen hb4 3, hbel.setCell h.low _, h.low, ?_, ⟨h.wrt.low, ?_, ?_, h.wrt.ne⟩, ?_⟩
  · have h2 := blk_set hb4 3 sv1
    simpa using h2
  · exact blk_far hw4 (fun e => h1 e.symm) _
  · exact own_setCell hr4 (fun e => own_apart h.wrt.row h.blk (by decide) e.symm) _
  · have e : skv l (k + 1) = skv l k ++ [.int .i64 p, .int .i64 (bt : Nat)] := by
      rw [skv, Po.skipAt, hk, hp, hbt]
    rw [e]
    exact own_setCell hown (fun e => own_apart hown hb4 (by decide) e.symm) _
theorem Wr.lower {base base' : Nat} {w : World} {a : Nat} {v : Value} {bs : List Bool} (h : Wr base w a v bs) (hb : base' ≤ base) : Wr base' w a v bs :=
  ⟨Nat.le_trans hb h.low, h.blk, own_less h.row hb, h.ne⟩

theorem bits_small (l : List Int) : ∀ i, (∀ j, j < i → Po.Fine l j) → (Po.bits l i).length ≤ 42 * i
  | 0, _ => Nat.le_refl _
  | i + 1, h => by
    have h1 := bits_small l i (fun j hj => h j (by omega))
    have hb : -1 ≤ Po.bef l i := by
      cases i with
      | zero => exact Int.le_refl _
      | succ i => exact Int.le_trans (by decide) (h i (by omega)).1
    have h2 := Po.delta_len_le (Po.gap l i) (Po.gap_ok (h i (by omega)) hb).2.1
    rw [Po.bits, List.length_append]; omega

/-- What Build leaves behind. -/
def BuildPost (w : World) (l : List Int) (e : Ending) (w' : World) : Prop :=
  (Po.errF l ≠ 0 ∧ e = .returned (.tuple #[.pointer none, .int .i64 (Po.errF l)]) ∨
    Po.errF l = 0 ∧ ∃ a gv sv, e = .returned (.tuple #[.pointer (some ⟨a, 0, none⟩), .int .i64 0]) ∧ IsList w.heap.size w' a gv sv l) ∧ Below w.heap.size w w'

theorem build_long (A0 : Option Addr) (c0 : Nat) (l : List Int) (w : World) (h : 4096 < l.length) :
    Calls Try.prog 62 #[.slice A0 l.length c0] w fun e w' => BuildPost w l e w' := by
  have hz : decide ((4096 : Int) < (l.length : Int)) = true := by simp; omega
  have he : Po.errF l = 2 := by unfold Po.errF; rw [if_pos h]
  have HE := Lib.hid he
  clear he
  go_enter Try.func62, Try.ntmps62
  go_wp2
  go_ret2
  exact ⟨.inl ⟨by rw [HE.out]; decide, by rw [HE.out]; rfl⟩, Below.refl _ _⟩

set_option maxHeartbeats 4000000 in
set_option maxRecDepth 100000 in
theorem build_calls (A0 : Option Addr) (c0 : Nat) (l : List Int) (w : World) (hr : Kd.C (Kd.int .i64) w A0 l.length l) (hlen : l.length ≤ 4096) :
    Calls Try.prog 62 #[.slice A0 l.length c0] w fun e w' => BuildPost w l e w' := by
  have hz : decide ((l.length : Int) > 4096) = false := by simp; omega
  have HR := Lib.hid (Kd.reads_of_C (enc := Value.int .i64) (d := (0 : Int)) (h1 := fun _ => rfl) hr)
  have HE : Hid (Po.errF l = Po.chk l l.length) := Lib.hid (by unfold Po.errF; rw [if_neg (by omega)])
  clear hr
  go_enter Try.func62, Try.ntmps62
  go_wp2_with (go_at_call 90; (with_reducible refine (newW_calls _).mono ?_); rintro e w2 ⟨wa, rfl, hw2, hb2⟩; have HW2 := Lib.hid hw2; have HB2 := Lib.hid hb2; clear hw2 hb2)
  generalize hla : w.heap.size = la at *
  have HLA := Lib.hid hla
  have hst : Hid (Bd w l la wa 0 (Po.cnt 0) w2 (.slice none 0 0) (.slice none 0 0)) := Lib.hid (by
    have hb1 : Below w.heap.size w (w.alloc (.cells #[.int .i64 (l.length : Nat), .int .i64 0, .slice none 0 0, .slice none 0 0] 92)) := (Below.refl _ w).alloc (Nat.le_refl _) _
    refine ⟨hb1.trans (HB2.out.mono (by simp)), by omega, ?_, HW2.out.lower (by simp), ?_⟩
    · rw [← hla]; exact blk_below (blk_new w _) HB2.out
    · exact World.ownsRow_nil _ _ _ _)
  clear hla HW2 HB2
  go_loopg [6, 19] l.length (fun kx s6 s19 wr => ∃ (i : Nat) (v sv : Value) (W : World), W = wr ∧ s6 = .int .i64 (Po.bef l i) ∧ s19 = .int .i64 i ∧ i ≤ l.length ∧ l.length - i ≤ kx ∧ Po.chk l i = 0 ∧ Bd w l la wa i (Po.cnt i) wr v sv)
  case atStart => exact ⟨0, _, _, _, rfl, rfl, rfl, Nat.zero_le _, by omega, rfl, hst.out⟩
  case round =>
    obtain ⟨i, v, sv, W, rfl, rfl, rfl, hi, hk, hch, hbd⟩ := hrel
    have HBD := Lib.hid hbd
    have HCH := Lib.hid hch
    clear hbd hch hst
    by_cases hlt : i < l.length
    · have hzi : decide ((i : Int) < (l.length : Int)) = true := by simp; omega
      have h0 : (0 : Int) ≤ (i : Int) := by omega
      have hlt' : (i : Int) < (l.length : Int) := by omega
      obtain ⟨ad, had, hcell⟩ := HR.out.2.2 (by omega)
      subst had
      have hcW : W.cell? (ad.add i) = some (.int .i64 (l.getD i 0)) := cell_later HBD.out.bel (hcell i hlt)
      obtain ⟨p, hp⟩ : ∃ p, l.getD i 0 = p := ⟨_, rfl⟩
      obtain ⟨b, hb⟩ : ∃ b, Po.bef l i = b := ⟨_, rfl⟩
      have HP := Lib.hid hp
      have HB := Lib.hid hb
      rw [hp] at hcW
      rw [hb]
      clear hcell hp hb
      by_cases hrg : p < 0 ∨ 2147483647 < p
      · have hc1 := Po.chk_range l i HCH.out (by rw [HP.out]; exact hrg)
        have hc2 := Po.chk_mono l (i + 1) (by rw [hc1]; decide) l.length (by omega)
        have HF : Hid (Po.errF l = 8) := Lib.hid (by rw [HE.out, hc2, hc1])
        clear hc1 hc2
        by_cases hp0 : p < 0
        · have hd1 : decide (p < 0) = true := decide_eq_true hp0
          go_wp2
          go_ret2
          exact ⟨.inl ⟨by rw [HF.out]; decide, by rw [HF.out]; rfl⟩, HBD.out.bel⟩
        · have hd1 : decide (p < 0) = false := decide_eq_false hp0
          have hd2 : decide (2147483647 < p) = true := by simp; omega
          go_wp2
          go_ret2
          exact ⟨.inl ⟨by rw [HF.out]; decide, by rw [HF.out]; rfl⟩, HBD.out.bel⟩
      · have hd1 : decide (p < 0) = false := by simp; omega
        have hd2 : decide (2147483647 < p) = false := by simp; omega
        by_cases hor : p ≤ b
        · have hd3 : decide (p ≤ b) = true := decide_eq_true hor
          have hc1 := Po.chk_order l i HCH.out (by rw [HP.out]; exact hrg) (by rw [HP.out, HB.out]; exact hor)
          have hc2 := Po.chk_mono l (i + 1) (by rw [hc1]; decide) l.length (by omega)
          have HF : Hid (Po.errF l = 6) := Lib.hid (by rw [HE.out, hc2, hc1])
          clear hc1 hc2
          go_wp2
          go_ret2
          exact ⟨.inl ⟨by rw [HF.out]; decide, by rw [HF.out]; rfl⟩, HBD.out.bel⟩
        · have hd3 : decide (p ≤ b) = false := decide_eq_false hor
          have hfine : Po.Fine l i := ⟨by rw [HP.out]; omega, by rw [HP.out]; omega, by rw [HP.out, HB.out]; omega⟩
          have HCH1 : Hid (Po.chk l (i + 1) = 0) := Lib.hid ((Po.chk_fine l i HCH.out).2 hfine)
          have hbe : -1 ≤ b := by
            rw [← HB.out]
            cases i with
            | zero => exact Int.le_refl _
            | succ i => exact Int.le_trans (by decide) ((Po.chk_zero l (i + 1)).1 HCH.out i (by omega)).1
          have hgo := Po.gap_ok hfine (by rw [HB.out]; exact hbe)
          obtain ⟨gp, hgp⟩ : ∃ gp, Po.gap l i = gp := ⟨_, rfl⟩
          rw [hgp, HP.out, HB.out] at hgo
          have HG := Lib.hid hgp
          have hgw : RowKit.wrap64 (p - b) = (gp : Int) := by unfold RowKit.wrap64; omega
          have hgu : IntKind.u64.wrap (gp : Int) = (gp : Int) := by simp [IntKind.wrap, IntKind.bits, IntKind.signed]; omega
          have hbl : Hid ((Po.bits l i).length < 1000000) := Lib.hid (by
            have := bits_small l i ((Po.chk_zero l i).1 HCH.out); omega)
          have HGO := Lib.hid hgo
          have hbn : Po.bef l (i + 1) = p := HP.out
          have HBN := Lib.hid hbn
          clear hgp hgo hfine hbn hrg hor hbe
          have HD : Hid (∀ W2 v2, Wr w.heap.size W2 wa v2 (Po.bits l i) → Calls Try.prog 92 #[.pointer (some ⟨wa, 0, none⟩), .int .u64 (gp : Nat)] W2 fun e w' => e = .returned (.int .i64 0) ∧ ∃ v', Wr w.heap.size w' wa v' (Po.bits l (i + 1)) ∧ Nx wa v2 W2 v' w') := Lib.hid (fun W2 v2 h2 => by
            have h := deltaW_calls w.heap.size wa v2 (Po.bits l i) gp W2 h2 HGO.out.1 (by have := HGO.out.2.1; omega) (by have := hbl.out; omega)
            rw [← HG.out] at h
            rw [HG.out] at h
            rw [show Po.bits l (i + 1) = Po.bits l i ++ Po.delta gp by rw [Po.bits, HG.out]]
            exact h)
          by_cases h16 : i % 16 = 0
          · have hd4 : decide (((i : Int) % 16) = 0) = true := by simp; omega
            have HK16 : Hid (16 * Po.cnt i = i) := Lib.hid (by unfold Po.cnt; omega)
            have HCN : Hid ((Po.cnt i + 1) * 16 ≤ 140737488355328) := Lib.hid (by unfold Po.cnt; omega)
            have HC1 : Hid (Po.cnt (i + 1) = Po.cnt i + 1) := Lib.hid (by unfold Po.cnt; omega)
            have HSK : Hid (W.drew.ownsRow w.heap.size 94 2 sv (Po.cnt i) (skv l (Po.cnt i))) := Lib.hid HBD.out.sk
            have HBW : Hid (Below w.heap.size w W.drew) := Lib.hid HBD.out.bel.drew
            have HBS : Hid (w.heap.size ≤ W.drew.heap.size) := Lib.hid HBD.out.bel.size
            have HLEN := Lib.hid (lenW_calls wa (Po.bits l i).length W.drew ((blk_cell HBD.out.wrt.blk 1).trans rfl))
            have cl3 : W.drew.cell? ⟨la, 3, none⟩ = some sv := (blk_cell HBD.out.blk 3).trans rfl
            have fl3 : W.drew.frozen? ⟨la, 3, none⟩ = false := blk_frozen HBD.out.blk 3
            have hbA : ∀ o, (W.drew.alloc o).heap[la]? = some (.cells #[.int .i64 (l.length : Nat), .int .i64 0, .slice none 0 0, sv] 92 (0, 0)) := fun o => blk_alloc (w := W.drew) HBD.out.blk o
            have cl3b : ∀ o, (W.drew.alloc o).cell? ⟨la, 3, none⟩ = some sv := fun o => (blk_cell (hbA o) 3).trans rfl
            have fl3b : ∀ o, (W.drew.alloc o).frozen? ⟨la, 3, none⟩ = false := fun o => blk_frozen (hbA o) 3
            obtain ⟨bt, hbt⟩ : ∃ bt, (Po.bits l i).length = bt := ⟨_, rfl⟩
            rw [hbt] at HLEN
            have HBT := Lib.hid hbt
            have HONE : Hid (∀ u ∈ [Value.int .i64 p, .int .i64 (bt : Nat)], u.oneCell' = true) := Lib.hid (fun u hu => by
              simp at hu
              rcases hu with rfl | rfl <;> rfl)
            obtain ⟨sA, sC, hsv⟩ := own_slice HBD.out.sk
            subst hsv
            clear hbt hbA
            go_wp2
            refine start_ (n := 14) (S := fun w' => w'.cell? ⟨la, 3, none⟩ = some (.slice sA (Po.cnt i) sC) ∧ w'.frozen? ⟨la, 3, none⟩ = false) (ds := [13]) #[false, false, false, false, false, false, false, false, false, false, false, false, false, false] (by kernel_rfl) rfl rfl ⟨cl3, fl3⟩ (fun hHeld => ?_)
            refine pure_ (i := 0) (N := some 38) (v := ?_) (a' := ?_) #[true, false, false, false, false, false, false, false, false, false, false, false, false, false] rfl rfl (by kernel_rfl) (fun _ _ _ h => h) (Or.inl ⟨by rfl, ?_⟩) ?_ ?_
            rotate_left
            · intro w'
              go_simp
              with_reducible rfl
            rotate_left
            · simp only [Act.put, List.setIfInBounds_toArray, List.set_cons_zero, List.set_cons_succ, i64_w, i32_w]
              rfl
            refine pure_ (i := 1) (N := some 39) (v := ?_) (a' := ?_) #[true, true, false, false, false, false, false, false, false, false, false, false, false, false] rfl rfl (by kernel_rfl) (fun _ _ _ h => h) (Or.inl ⟨by rfl, ?_⟩) ?_ ?_
            rotate_left
            · intro w'
              go_simp
              with_reducible rfl
            rotate_left
            · simp only [Act.put, List.setIfInBounds_toArray, List.set_cons_zero, List.set_cons_succ, i64_w, i32_w]
              rfl
            refine pure_ (i := 2) (N := some 40) (v := ?_) (a' := ?_) #[true, true, true, false, false, false, false, false, false, false, false, false, false, false] rfl rfl (by kernel_rfl) (fun _ _ _ h => h) (Or.inl ⟨by rfl, ?_⟩) ?_ ?_
            rotate_left
            · intro w'
              go_simp
              with_reducible rfl
            rotate_left
            · simp only [Act.put, List.setIfInBounds_toArray, List.set_cons_zero, List.set_cons_succ, i64_w, i32_w]
              rfl
            refine pure_ (i := 3) (N := some 41) (v := ?_) (a' := ?_) #[true, true, true, true, false, false, false, false, false, false, false, false, false, false] rfl rfl (by kernel_rfl) (fun _ _ _ h => h) (Or.inl ⟨by rfl, ?_⟩) ?_ ?_
            rotate_left
            · intro w'
              go_simp
              with_reducible rfl
            rotate_left
            · simp only [Act.put, List.setIfInBounds_toArray, List.set_cons_zero, List.set_cons_succ, i64_w, i32_w]
              rfl
            refine take_ (i := 4) (N := some 42) (v := ?_) (a' := ?_) #[true, true, true, true, true, false, false, false, false, false, false, false, false, false] rfl rfl (by kernel_rfl) (fun _ _ _ h => h) (Or.inl ⟨by rfl, ?_⟩) hHeld ?_ ?_
            rotate_left
            · rintro w' ⟨s0, s1⟩
              go_simp
              with_reducible rfl
            rotate_left
            · simp only [Act.put, List.setIfInBounds_toArray, List.set_cons_zero, List.set_cons_succ, i64_w, i32_w]
              rfl
            refine pure_ (i := 5) (N := some 43) (v := ?_) (a' := ?_) #[true, true, true, true, true, true, false, false, false, false, false, false, false, false] rfl rfl (by kernel_rfl) (fun _ _ _ h => h) (Or.inl ⟨by rfl, ?_⟩) ?_ ?_
            rotate_left
            · intro w'
              go_simp
              with_reducible rfl
            rotate_left
            · simp only [Act.put, List.setIfInBounds_toArray, List.set_cons_zero, List.set_cons_succ, i64_w, i32_w]
              rfl
            refine pure_ (i := 6) (N := some 44) (v := ?_) (a' := ?_) #[true, true, true, true, true, true, true, false, false, false, false, false, false, false] rfl rfl (by kernel_rfl) (fun _ _ _ h => h) (Or.inl ⟨by rfl, ?_⟩) ?_ ?_
            rotate_left
            · intro w'
              go_simp
              with_reducible rfl
            rotate_left
            · simp only [Act.put, List.setIfInBounds_toArray, List.set_cons_zero, List.set_cons_succ, i64_w, i32_w]
              rfl
            refine one_ (i := 7) (N := some 45) #[true, true, true, true, true, true, true, true, false, false, false, false, false, false] rfl rfl (by kernel_rfl) (by decide) (fun K hK => ?_)
            refine goes_ Try.func91 (by kernel_rfl) rfl #[.pointer (some ⟨wa, 0, none⟩)] (by rfl) rfl rfl (by (try simp only [List.map_toArray, List.map_cons, List.map_nil]); first | done | rfl) ?_
            with_reducible refine (HLEN.out).mono ?_
            rintro e w3 ⟨rfl, rfl⟩
            refine ⟨_, rfl, ?_⟩
            refine hK.out _ _ ⟨cl3, fl3⟩ (fun hHeld => ?_)
            clear hK K
            refine norm_ (a' := ?_) ?_ ?_
            rotate_left
            · show Act.put _ (some 45) _ = _
              simp only [Act.put, List.setIfInBounds_toArray, List.set_cons_zero, List.set_cons_succ, i64_w, i32_w]
              rfl
            refine pure_ (i := 8) (N := some 46) (v := ?_) (a' := ?_) #[true, true, true, true, true, true, true, true, true, false, false, false, false, false] rfl rfl (by kernel_rfl) (fun _ _ _ h => h) (Or.inl ⟨by rfl, ?_⟩) ?_ ?_
            rotate_left
            · intro w'
              go_simp
              with_reducible rfl
            rotate_left
            · simp only [Act.put, List.setIfInBounds_toArray, List.set_cons_zero, List.set_cons_succ, i64_w, i32_w]
              rfl
            refine one_ (i := 9) (N := some 47) #[true, true, true, true, true, true, true, true, true, true, false, false, false, false] rfl rfl (by kernel_rfl) (by decide) (fun K hK => ?_)
            refine value_ (w1 := ?_) (v := ?_) (by rfl) rfl ?_ ?_
            rotate_left 2
            · go_simp
              constructor
              · rfl
              · rfl
            refine hK.out _ _ ⟨cl3b _, fl3b _⟩ (fun hHeld => ?_)
            clear hK K
            refine norm_ (a' := ?_) ?_ ?_
            rotate_left
            · show Act.put _ (some 47) _ = _
              simp only [Act.put, List.setIfInBounds_toArray, List.set_cons_zero, List.set_cons_succ, i64_w, i32_w]
              rfl
            refine one_ (i := 10) (N := some 48) #[true, true, true, true, true, true, true, true, true, true, true, false, false, false] rfl rfl (by kernel_rfl) (by decide) (fun K hK => ?_)
            refine step_append_cells (w0 := w) (W := W.drew) w.heap.size (by rfl) (.tmp 42) (.tmp 47) 90 94 (.agg #[.int .i64 0, .int .i64 0]) 2 16 rfl (show Try.prog.underlying 90 = some (.slice 94) by kernel_rfl) (by kernel_rfl) rfl (by decide) (by decide) _ (Po.cnt i) (skv l (Po.cnt i)) [.int .i64 p, .int .i64 (bt : Nat)] rfl rfl rfl HONE.out HSK.out HBW.out HBS.out HCN.out ?_
            intro sv1 w4 hown hbel hgr _
            obtain ⟨sA1, sC1, rfl⟩ := own_slice hown
            have h4 := Bd.grown HBD.out HK16.out HP.out HBT.out hown hbel hgr
            have H4 := Lib.hid h4
            clear hown hbel hgr h4
            refine hK.out _ _ ⟨H4.out.c3, H4.out.f3⟩ (fun hHeld => ?_)
            clear hK K
            refine norm_ (a' := ?_) ?_ ?_
            rotate_left
            · show Act.put _ (some 48) _ = _
              simp only [Act.put, List.setIfInBounds_toArray, List.set_cons_zero, List.set_cons_succ, i64_w, i32_w]
              rfl
            refine pure_ (i := 11) (N := some 49) (v := ?_) (a' := ?_) #[true, true, true, true, true, true, true, true, true, true, true, true, false, false] rfl rfl (by kernel_rfl) (fun _ _ _ h => h) (Or.inl ⟨by rfl, ?_⟩) ?_ ?_
            rotate_left
            · intro w'
              go_simp
              with_reducible rfl
            rotate_left
            · simp only [Act.put, List.setIfInBounds_toArray, List.set_cons_zero, List.set_cons_succ, i64_w, i32_w]
              rfl
            refine pure_ (i := 12) (N := some 50) (v := ?_) (a' := ?_) #[true, true, true, true, true, true, true, true, true, true, true, true, true, false] rfl rfl (by kernel_rfl) (fun _ _ _ h => h) (Or.inl ⟨by rfl, ?_⟩) ?_ ?_
            rotate_left
            · intro w'
              go_simp
              with_reducible rfl
            rotate_left
            · simp only [Act.put, List.setIfInBounds_toArray, List.set_cons_zero, List.set_cons_succ, i64_w, i32_w]
              rfl
            refine last_ (i := 13) (N := none) #[true, true, true, true, true, true, true, true, true, true, true, true, true, true] rfl rfl (by kernel_rfl) (by decide) (fun K hK => ?_)
            have cl4 := H4.out.c3
            have fl4 := H4.out.f3
            refine skip_ (w1 := ?_) (by rfl) rfl ?_ ?_
            rotate_left
            · go_simp
              rfl
            refine hK.out _ _ ?_
            clear hK K
            refine done_ (by kernel_rfl) ?_
            generalize hW5 : w4.setCell ⟨la, 3, none⟩ _ = W5 at *
            have H5 := H4.out.fin
            rw [hW5] at H5
            have HBD5 := Lib.hid H5
            clear H5 hW5
            go_wp2_with (go_at_call 92; (with_reducible refine (HD.out _ _ HBD5.out.wrt).mono ?_); rintro e w5 ⟨rfl, v5, hw5, hn5⟩; have HW5 := Lib.hid hw5; have HN5 := Lib.hid hn5; clear hw5 hn5)
            go_roundg (l.length - (i + 1))
            case measure => omega
            case rel =>
              obtain ⟨k1, k2, k3⟩ := HBD5.out.delta HN5.out
              exact ⟨i + 1, v5, _, _, rfl, by rw [HBN.out], rfl, by omega, by omega, HCH1.out, ⟨k3, HBD5.out.low, k1, HW5.out, by rw [HC1.out]; exact k2⟩⟩
          · have hd4 : decide (((i : Int) % 16) = 0) = false := by simp; omega
            have HCN : Hid (Po.cnt (i + 1) = Po.cnt i) := Lib.hid (by unfold Po.cnt; omega)
            go_wp2_with (go_at_call 92; (with_reducible refine (HD.out _ _ HBD.out.wrt).mono ?_); rintro e w5 ⟨rfl, v5, hw5, hn5⟩; have HW5 := Lib.hid hw5; have HN5 := Lib.hid hn5; clear hw5 hn5)
            go_roundg (l.length - (i + 1))
            case measure => omega
            case rel =>
              obtain ⟨k1, k2, k3⟩ := HBD.out.delta HN5.out
              exact ⟨i + 1, v5, sv, _, rfl, by rw [HBN.out], rfl, by omega, by omega, HCH1.out, ⟨k3, HBD.out.low, k1, HW5.out, by rw [HCN.out]; exact k2⟩⟩
    · obtain rfl : i = l.length := by omega
      have hzi : decide ((l.length : Int) < (l.length : Int)) = false := by simp
      have hbl : (Po.bits l l.length).length ≤ 42 * l.length := bits_small l l.length ((Po.chk_zero l l.length).1 HCH.out)
      have HG := Lib.hid (bytesW_calls w.heap.size wa v (Po.bits l l.length) W HBD.out.wrt (by omega))
      have HL : Hid (∀ w3, Below W.heap.size W w3 → Calls Try.prog 91 #[.pointer (some ⟨wa, 0, none⟩)] w3 fun e w' => e = .returned (.int .i64 ((Po.bits l l.length).length : Nat)) ∧ w' = w3) := Lib.hid (fun w3 h3 => lenW_calls wa _ w3 ((blk_cell (blk_below HBD.out.wrt.blk h3) 1).trans rfl))
      clear hbl
      go_wp2_with (first
        | (go_at_call 93; (with_reducible refine HG.out.mono ?_); rintro e w3 ⟨gv, rfl, hg, hb⟩
           ; have hk3 := blk_below HBD.out.blk hb
           ; have d2 : w3.cell? ⟨la, 2, none⟩ = some (.slice none 0 0) := (blk_cell hk3 2).trans rfl
           ; have d1 : w3.cell? ⟨la, 1, none⟩ = some (.int .i64 0) := (blk_cell hk3 1).trans rfl
           ; have e2 : w3.frozen? ⟨la, 2, none⟩ = false := blk_frozen hk3 2
           ; have e1 : w3.frozen? ⟨la, 1, none⟩ = false := blk_frozen hk3 1
           ; obtain ⟨gA, gC, rfl⟩ := own_slice hg
           ; have HGO := Lib.hid hg; have HGB := Lib.hid hb; have HK3 := Lib.hid hk3; clear hg hb hk3)
        | (go_at_call 91; (with_reducible refine (HL.out _ HGB.out).mono ?_); rintro e w4 ⟨rfl, rfl⟩))
      go_ret2
      have hb3 := HBD.out.bel.trans (HGB.out.mono HBD.out.bel.size)
      have hlo := HBD.out.low
      refine ⟨.inr ⟨by rw [HE.out]; exact HCH.out, la, .slice gA (Po.pack (Po.bits l l.length)).length gC, sv, rfl, hlo, (Po.chk_zero l l.length).1 HCH.out, by omega, ?_, ?_, ?_⟩, (hb3.setCell hlo _).setCell hlo _⟩
      · have h1 := blk_set (blk_set HK3.out 2 (.slice gA (Po.pack (Po.bits l l.length)).length gC)) 1 (.int .i64 ((Po.bits l l.length).length : Nat))
        simpa using h1
      · have h1 := own_less HGO.out HBD.out.bel.size
        have hne := own_apart h1 HK3.out (by decide)
        exact own_setCell (own_setCell h1 (fun e => hne e.symm) _) (fun e => hne e.symm) _
      · have h1 := own_later HBD.out.sk HGB.out
        have hne := own_apart h1 HK3.out (by decide)
        exact own_setCell (own_setCell h1 (fun e => hne e.symm) _) (fun e => hne e.symm) _

end Go.Proofs.Ytmeojlamadcedaa
