/- postings.Build and its list; bitio's Reader; postings.List part and Len.
   Conditions: those of the theorems. -/
import Derived.Test.YtmeojlamadcedaaBiW
import Derived.Test.YtmeojlamadcedaaPoPure
import Derived.OwnWalk
import Derived.Test.YtmeojlamadcedaaWMore

namespace Go.Proofs.Ytmeojlamadcedaa
set_option linter.unusedSimpArgs false
open Go.RowKit Go.Sort Go.Proofs.YtmeojlamadcedaaW.PrintWords Go.Proofs.YtmeojlamadcedaaW.PrintLast

theorem own_apart {w : World} {base n a : Nat} {e t : TypeId} {size : Nat} {v : Value} {xs : List Value} {cs : Array Value} (h : w.ownsRow base e size v n xs) (hb : w.heap[a]? = some (.cells cs t (0, 0))) (hne : e ≠ t) : v.ownBlock ≠ some a := by
  rcases h.2 with ⟨rfl, _⟩ | ⟨g, cap, cur, rfl, _, hg, _⟩
  · intro h; cases h
  · intro h
    have e2 := Option.some.inj h
    exact blk_ne hg hb hne e2
theorem own_own {w : World} {base base' n n' : Nat} {e e' : TypeId} {size size' : Nat} {v v' : Value} {xs xs' : List Value} (h : w.ownsRow base e size v n xs) (h' : w.ownsRow base' e' size' v' n' xs') (hne : e ≠ e') (k : Nat) (hk : v.ownBlock = some k) : v'.ownBlock ≠ some k := by
  rcases h.2 with ⟨rfl, _⟩ | ⟨g, cap, cur, rfl, _, hg, _⟩
  · cases hk
  · obtain rfl := Option.some.inj hk
    exact own_apart h' hg (Ne.symm hne)

/-- The skip table's cells. -/
def skv (l : List Int) : Nat → List Value
  | 0 => []
  | k + 1 => skv l k ++ [.int .i64 (Po.skipAt l k).1, .int .i64 ((Po.skipAt l k).2 : Nat)]
theorem skv_len (l : List Int) : ∀ k, (skv l k).length = k * 2
  | 0 => rfl
  | k + 1 => by rw [skv, List.length_append, skv_len l k]; simp; omega
theorem skv_at (l : List Int) (j : Nat) : ∀ k, j < k → (skv l k)[2 * j]? = some (.int .i64 (Po.skipAt l j).1) ∧ (skv l k)[2 * j + 1]? = some (.int .i64 ((Po.skipAt l j).2 : Nat))
  | 0, h => by omega
  | k + 1, h => by
    have hl := skv_len l k
    rw [skv]
    rcases Nat.lt_or_ge j k with h1 | h1
    · rw [List.getElem?_append_left (by omega), List.getElem?_append_left (by omega)]
      exact skv_at l j k h1
    · obtain rfl : j = k := by omega
      rw [List.getElem?_append_right (by omega), List.getElem?_append_right (by omega), hl]
      rw [show 2 * j - j * 2 = 0 by omega, show 2 * j + 1 - j * 2 = 1 by omega]
      exact ⟨rfl, rfl⟩

/-- A list of positions at block a. -/
structure IsList (base : Nat) (w : World) (a : Nat) (gv sv : Value) (l : List Int) : Prop where
  low : base ≤ a
  valid : Po.Valid l
  len : l.length ≤ 4096
  blk : w.heap[a]? = some (.cells #[.int .i64 (l.length : Nat), .int .i64 ((Po.bits l l.length).length : Nat), gv, sv] 92 (0, 0))
  gaps : w.ownsRow base 5 1 gv (Po.pack (Po.bits l l.length)).length (vals (Po.pack (Po.bits l l.length)))
  skips : w.ownsRow base 94 2 sv (Po.cnt l.length) (skv l (Po.cnt l.length))
theorem own_later {w w1 : World} {base n : Nat} {e : TypeId} {size : Nat} {v : Value} {xs : List Value} (h : w.ownsRow base e size v n xs) (hb : Below w.heap.size w w1) : w1.ownsRow base e size v n xs :=
  (Fr.ofBelow (S := fun _ => False) hb).own h (fun _ _ h => h)
theorem IsList.later {base : Nat} {w w1 : World} {a : Nat} {gv sv : Value} {l : List Int} (h : IsList base w a gv sv l) (hb : Below w.heap.size w w1) : IsList base w1 a gv sv l :=
  ⟨h.low, h.valid, h.len, blk_below h.blk hb, own_later h.gaps hb, own_later h.skips hb⟩

/-- Build, i positions written. -/
structure Bd (w0 : World) (l : List Int) (la wa i k : Nat) (wr : World) (v sv : Value) : Prop where
  bel : Below w0.heap.size w0 wr
  low : w0.heap.size ≤ la
  blk : wr.heap[la]? = some (.cells #[.int .i64 (l.length : Nat), .int .i64 0, .slice none 0 0, sv] 92 (0, 0))
  wrt : Wr w0.heap.size wr wa v (Po.bits l i)
  sk : wr.ownsRow w0.heap.size 94 2 sv k (skv l k)
theorem Bd.delta {w0 : World} {l : List Int} {la wa i k : Nat} {wr w' : World} {v v' sv : Value} (h : Bd w0 l la wa i k wr v sv) (hn : Nx wa v wr v' w') :
    w'.heap[la]? = some (.cells #[.int .i64 (l.length : Nat), .int .i64 0, .slice none 0 0, sv] 92 (0, 0)) ∧ w'.ownsRow w0.heap.size 94 2 sv k (skv l k) ∧ Below w0.heap.size w0 w' := by
  have h1 : la ≠ wa := blk_ne h.blk h.wrt.blk (by decide)
  have h2 := own_apart h.wrt.row h.blk (by decide)
  have h3 := own_apart h.sk h.wrt.blk (by decide)
  refine ⟨hn.fr.blk h.blk ?_, hn.fr.own h.sk ?_, Fr.after h.bel hn.fr h.bel.size ?_⟩
  · rintro (e | e)
    · exact h1 e
    · exact h2 e
  · rintro k hk (e | e)
    · exact h3 (e ▸ hk)
    · exact own_own h.sk h.wrt.row (by decide) k hk e
  · intro k hk hs
    have := h.wrt.its k hs
    omega
/-- Behind the append to the skip table. -/
structure Bq (w0 : World) (l : List Int) (la wa i k : Nat) (w4 : World) (v sv sv1 : Value) : Prop where
  c3 : w4.cell? ⟨la, 3, none⟩ = some sv
  f3 : w4.frozen? ⟨la, 3, none⟩ = false
  fin : Bd w0 l la wa i (k + 1) (w4.setCell ⟨la, 3, none⟩ sv1) v sv1
theorem Bd.grown {w0 : World} {l : List Int} {la wa i k : Nat} {wr w4 : World} {v sv sv1 : Value} {p : Int} {bt : Nat} (h : Bd w0 l la wa i k wr v sv) (hk : 16 * k = i) (hp : l.getD i 0 = p) (hbt : (Po.bits l i).length = bt)
    (hown : w4.ownsRow w0.heap.size 94 2 sv1 (k + 1) (skv l k ++ [.int .i64 p, .int .i64 (bt : Nat)])) (hbel : Below w0.heap.size w0 w4) (hgr : wr.drew.grownBy w4 sv.ownBlock) : Bq w0 l la wa i k w4 v sv sv1 := by
  have h1 : la ≠ wa := blk_ne h.blk h.wrt.blk (by decide)
  have hs1 := own_apart h.sk h.blk (by decide)
  have hs2 := own_apart h.sk h.wrt.blk (by decide)
  have hb4 : w4.heap[la]? = _ := blk_grown (w := wr.drew) h.blk hgr (fun e => hs1 e.symm)
  have hw4 : w4.heap[wa]? = _ := blk_grown (w := wr.drew) h.wrt.blk hgr (fun e => hs2 e.symm)
  have hg0 : Fr (fun k => sv.ownBlock = some k) wr w4 := ⟨hgr.os, hgr.tape, hgr.output, hgr.size, fun k hk hn => hgr.block k hk (fun e => hn e.symm)⟩
  have hr4 := hg0.own h.wrt.row (fun k hk => own_own h.wrt.row h.sk (by decide) k hk)
  refine ⟨(blk_cell hb4 3).trans rfl, blk_frozen hb4 3, hbel.setCell h.low _, h.low, ?_, ⟨h.wrt.low, ?_, ?_, h.wrt.ne⟩, ?_⟩
  · have h2 := blk_set hb4 3 sv1
    simpa using h2
  · exact blk_far hw4 (fun e => h1 e.symm) _
  · exact own_setCell hr4 (fun e => own_apart h.wrt.row h.blk (by decide) e.symm) _
  · have e : skv l (k + 1) = skv l k ++ [.int .i64 p, .int .i64 (bt : Nat)] := by
      rw [skv, Po.skipAt, hk, hp, hbt]
    rw [e]
    exact own_setCell hown (fun e => own_apart hown hb4 (by decide) e.symm) _
theorem Wr.lower {base base' : Nat} {w : World} {a : Nat} {v : Value} {bs : List Bool} (h : Wr base w a v bs) (hb : base' ≤ base) : Wr base' w a v bs :=
  ⟨Nat.le_trans hb h.low, h.blk, own_less h.row hb, h.ne⟩

theorem bits_small (l : List Int) : ∀ i, (∀ j, j < i → Po.Fine l j) → (Po.bits l i).length ≤ 42 * i
  | 0, _ => Nat.le_refl _
  | i + 1, h => by
    have h1 := bits_small l i (fun j hj => h j (by omega))
    have hb : -1 ≤ Po.bef l i := by
      cases i with
      | zero => exact Int.le_refl _
      | succ i => exact Int.le_trans (by decide) (h i (by omega)).1
    have h2 := Po.delta_len_le (Po.gap l i) (Po.gap_ok (h i (by omega)) hb).2.1
    rw [Po.bits, List.length_append]; omega

/-- What Build leaves behind. -/
def BuildPost (w : World) (l : List Int) (e : Ending) (w' : World) : Prop :=
  (Po.errF l ≠ 0 ∧ e = .returned (.tuple #[.pointer none, .int .i64 (Po.errF l)]) ∨
    Po.errF l = 0 ∧ ∃ a gv sv, e = .returned (.tuple #[.pointer (some ⟨a, 0, none⟩), .int .i64 0]) ∧ IsList w.heap.size w' a gv sv l) ∧ Below w.heap.size w w'

theorem build_long (A0 : Option Addr) (c0 : Nat) (l : List Int) (w : World) (h : 4096 < l.length) :
    Calls Try.prog 62 #[.slice A0 l.length c0] w fun e w' => BuildPost w l e w' := by
  have hz : decide ((4096 : Int) < (l.length : Int)) = true := by simp; omega
  have he : Po.errF l = 2 := by unfold Po.errF; rw [if_pos h]
  have HE := Lib.hid he
  clear he
  go_enter Try.func62, Try.ntmps62
  go_wp2
  go_ret2
  exact ⟨.inl ⟨by rw [HE.out]; decide, by rw [HE.out]; rfl⟩, Below.refl _ _⟩

set_option maxHeartbeats 4000000 in
set_option maxRecDepth 100000 in
theorem build_calls (A0 : Option Addr) (c0 : Nat) (l : List Int) (w : World) (hr : Kd.C (Kd.int .i64) w A0 l.length l) (hlen : l.length ≤ 4096) :
    Calls Try.prog 62 #[.slice A0 l.length c0] w fun e w' => BuildPost w l e w' := by
  have hz : decide ((l.length : Int) > 4096) = false := by simp; omega
  have HR := Lib.hid (Kd.reads_of_C (enc := Value.int .i64) (d := (0 : Int)) (h1 := fun _ => rfl) hr)
  have HE : Hid (Po.errF l = Po.chk l l.length) := Lib.hid (by unfold Po.errF; rw [if_neg (by omega)])
  clear hr
  go_enter Try.func62, Try.ntmps62
  go_wp2_with (go_at_call 90; (with_reducible refine (newW_calls _).mono ?_); rintro e w2 ⟨wa, rfl, hw2, hb2⟩; have HW2 := Lib.hid hw2; have HB2 := Lib.hid hb2; clear hw2 hb2)
  generalize hla : w.heap.size = la at *
  have HLA := Lib.hid hla
  have hst : Hid (Bd w l la wa 0 (Po.cnt 0) w2 (.slice none 0 0) (.slice none 0 0)) := Lib.hid (by
    have hb1 : Below w.heap.size w (w.alloc (.cells #[.int .i64 (l.length : Nat), .int .i64 0, .slice none 0 0, .slice none 0 0] 92)) := (Below.refl _ w).alloc (Nat.le_refl _) _
    refine ⟨hb1.trans (HB2.out.mono (by simp)), by omega, ?_, HW2.out.lower (by simp), ?_⟩
    · rw [← hla]; exact blk_below (blk_new w _) HB2.out
    · exact World.ownsRow_nil _ _ _ _)
  clear hla HW2 HB2
  go_loopg [6, 19] l.length (fun kx s6 s19 wr => ∃ (i : Nat) (v sv : Value) (W : World), W = wr ∧ s6 = .int .i64 (Po.bef l i) ∧ s19 = .int .i64 i ∧ i ≤ l.length ∧ l.length - i ≤ kx ∧ Po.chk l i = 0 ∧ Bd w l la wa i (Po.cnt i) wr v sv)
  case atStart => exact ⟨0, _, _, _, rfl, rfl, rfl, Nat.zero_le _, by omega, rfl, hst.out⟩
  case round =>
    obtain ⟨i, v, sv, W, rfl, rfl, rfl, hi, hk, hch, hbd⟩ := hrel
    have HBD := Lib.hid hbd
    have HCH := Lib.hid hch
    clear hbd hch hst
    by_cases hlt : i < l.length
    · have hzi : decide ((i : Int) < (l.length : Int)) = true := by simp; omega
      have h0 : (0 : Int) ≤ (i : Int) := by omega
      have hlt' : (i : Int) < (l.length : Int) := by omega
      obtain ⟨ad, had, hcell⟩ := HR.out.2.2 (by omega)
      subst had
      have hcW : W.cell? (ad.add i) = some (.int .i64 (l.getD i 0)) := cell_later HBD.out.bel (hcell i hlt)
      obtain ⟨p, hp⟩ : ∃ p, l.getD i 0 = p := ⟨_, rfl⟩
      obtain ⟨b, hb⟩ : ∃ b, Po.bef l i = b := ⟨_, rfl⟩
      have HP := Lib.hid hp
      have HB := Lib.hid hb
      rw [hp] at hcW
      rw [hb]
      clear hcell hp hb
      by_cases hrg : p < 0 ∨ 2147483647 < p
      · have hc1 := Po.chk_range l i HCH.out (by rw [HP.out]; exact hrg)
        have hc2 := Po.chk_mono l (i + 1) (by rw [hc1]; decide) l.length (by omega)
        have HF : Hid (Po.errF l = 8) := Lib.hid (by rw [HE.out, hc2, hc1])
        clear hc1 hc2
        by_cases hp0 : p < 0
        · have hd1 : decide (p < 0) = true := decide_eq_true hp0
          go_wp2
          go_ret2
          exact ⟨.inl ⟨by rw [HF.out]; decide, by rw [HF.out]; rfl⟩, HBD.out.bel⟩
        · have hd1 : decide (p < 0) = false := decide_eq_false hp0
          have hd2 : decide (2147483647 < p) = true := by simp; omega
          go_wp2
          go_ret2
          exact ⟨.inl ⟨by rw [HF.out]; decide, by rw [HF.out]; rfl⟩, HBD.out.bel⟩
      · have hd1 : decide (p < 0) = false := by simp; omega
        have hd2 : decide (2147483647 < p) = false := by simp; omega
        by_cases hor : p ≤ b
        · have hd3 : decide (p ≤ b) = true := decide_eq_true hor
          have hc1 := Po.chk_order l i HCH.out (by rw [HP.out]; exact hrg) (by rw [HP.out, HB.out]; exact hor)
          have hc2 := Po.chk_mono l (i + 1) (by rw [hc1]; decide) l.length (by omega)
          have HF : Hid (Po.errF l = 6) := Lib.hid (by rw [HE.out, hc2, hc1])
          clear hc1 hc2
          go_wp2
          go_ret2
          exact ⟨.inl ⟨by rw [HF.out]; decide, by rw [HF.out]; rfl⟩, HBD.out.bel⟩
        · have hd3 : decide (p ≤ b) = false := decide_eq_false hor
          have hfine : Po.Fine l i := ⟨by rw [HP.out]; omega, by rw [HP.out]; omega, by rw [HP.out, HB.out]; omega⟩
          have HCH1 : Hid (Po.chk l (i + 1) = 0) := Lib.hid ((Po.chk_fine l i HCH.out).2 hfine)
          have hbe : -1 ≤ b := by
            rw [← HB.out]
            cases i with
            | zero => exact Int.le_refl _
            | succ i => exact Int.le_trans (by decide) ((Po.chk_zero l (i + 1)).1 HCH.out i (by omega)).1
          have hgo := Po.gap_ok hfine (by rw [HB.out]; exact hbe)
          obtain ⟨gp, hgp⟩ : ∃ gp, Po.gap l i = gp := ⟨_, rfl⟩
          rw [hgp, HP.out, HB.out] at hgo
          have HG := Lib.hid hgp
          have hgw : RowKit.wrap64 (p - b) = (gp : Int) := by unfold RowKit.wrap64; omega
          have hgu : IntKind.u64.wrap (gp : Int) = (gp : Int) := by simp [IntKind.wrap, IntKind.bits, IntKind.signed]; omega
          have hbl : Hid ((Po.bits l i).length < 1000000) := Lib.hid (by
            have := bits_small l i ((Po.chk_zero l i).1 HCH.out); omega)
          have HGO := Lib.hid hgo
          have hbn : Po.bef l (i + 1) = p := HP.out
          have HBN := Lib.hid hbn
          clear hgp hgo hfine hbn hrg hor hbe
          have HD : Hid (∀ W2 v2, Wr w.heap.size W2 wa v2 (Po.bits l i) → Calls Try.prog 92 #[.pointer (some ⟨wa, 0, none⟩), .int .u64 (gp : Nat)] W2 fun e w' => e = .returned (.int .i64 0) ∧ ∃ v', Wr w.heap.size w' wa v' (Po.bits l (i + 1)) ∧ Nx wa v2 W2 v' w') := Lib.hid (fun W2 v2 h2 => by
            have h := deltaW_calls w.heap.size wa v2 (Po.bits l i) gp W2 h2 HGO.out.1 (by have := HGO.out.2.1; omega) (by have := hbl.out; omega)
            rw [← HG.out] at h
            rw [HG.out] at h
            rw [show Po.bits l (i + 1) = Po.bits l i ++ Po.delta gp by rw [Po.bits, HG.out]]
            exact h)
          by_cases h16 : i % 16 = 0
          · have hd4 : decide (((i : Int) % 16) = 0) = true := by simp; omega
            have HK16 : Hid (16 * Po.cnt i = i) := Lib.hid (by unfold Po.cnt; omega)
            have HCN : Hid ((Po.cnt i + 1) * 16 ≤ 140737488355328) := Lib.hid (by unfold Po.cnt; omega)
            have HC1 : Hid (Po.cnt (i + 1) = Po.cnt i + 1) := Lib.hid (by unfold Po.cnt; omega)
            have HSK : Hid (W.drew.ownsRow w.heap.size 94 2 sv (Po.cnt i) (skv l (Po.cnt i))) := Lib.hid HBD.out.sk
            have HBW : Hid (Below w.heap.size w W.drew) := Lib.hid HBD.out.bel.drew
            have HBS : Hid (w.heap.size ≤ W.drew.heap.size) := Lib.hid HBD.out.bel.size
            have HLEN := Lib.hid (lenW_calls wa (Po.bits l i).length W.drew ((blk_cell HBD.out.wrt.blk 1).trans rfl))
            have cl3 : W.drew.cell? ⟨la, 3, none⟩ = some sv := (blk_cell HBD.out.blk 3).trans rfl
            have fl3 : W.drew.frozen? ⟨la, 3, none⟩ = false := blk_frozen HBD.out.blk 3
            have hbA : ∀ o, (W.drew.alloc o).heap[la]? = some (.cells #[.int .i64 (l.length : Nat), .int .i64 0, .slice none 0 0, sv] 92 (0, 0)) := fun o => blk_alloc (w := W.drew) HBD.out.blk o
            have cl3b : ∀ o, (W.drew.alloc o).cell? ⟨la, 3, none⟩ = some sv := fun o => (blk_cell (hbA o) 3).trans rfl
            have fl3b : ∀ o, (W.drew.alloc o).frozen? ⟨la, 3, none⟩ = false := fun o => blk_frozen (hbA o) 3
            obtain ⟨bt, hbt⟩ : ∃ bt, (Po.bits l i).length = bt := ⟨_, rfl⟩
            rw [hbt] at HLEN
            have HBT := Lib.hid hbt
            have HONE : Hid (∀ u ∈ [Value.int .i64 p, .int .i64 (bt : Nat)], u.oneCell' = true) := Lib.hid (fun u hu => by
              simp at hu
              rcases hu with rfl | rfl <;> rfl)
            obtain ⟨sA, sC, hsv⟩ := own_slice HBD.out.sk
            subst hsv
            clear hbt hbA
            go_wp2
            refine start_ (n := 14) (S := fun w' => w'.cell? ⟨la, 3, none⟩ = some (.slice sA (Po.cnt i) sC) ∧ w'.frozen? ⟨la, 3, none⟩ = false) (ds := [13]) #[false, false, false, false, false, false, false, false, false, false, false, false, false, false] (by kernel_rfl) rfl rfl ⟨cl3, fl3⟩ (fun hHeld => ?_)
            refine pure_ (i := 0) (N := some 38) (v := ?_) (a' := ?_) #[true, false, false, false, false, false, false, false, false, false, false, false, false, false] rfl rfl (by kernel_rfl) (fun _ _ _ h => h) (Or.inl ⟨by rfl, ?_⟩) ?_ ?_
            rotate_left
            · intro w'
              go_simp
              with_reducible rfl
            rotate_left
            · simp only [Act.put, List.setIfInBounds_toArray, List.set_cons_zero, List.set_cons_succ, i64_w, i32_w]
              rfl
            refine pure_ (i := 1) (N := some 39) (v := ?_) (a' := ?_) #[true, true, false, false, false, false, false, false, false, false, false, false, false, false] rfl rfl (by kernel_rfl) (fun _ _ _ h => h) (Or.inl ⟨by rfl, ?_⟩) ?_ ?_
            rotate_left
            · intro w'
              go_simp
              with_reducible rfl
            rotate_left
            · simp only [Act.put, List.setIfInBounds_toArray, List.set_cons_zero, List.set_cons_succ, i64_w, i32_w]
              rfl
            refine pure_ (i := 2) (N := some 40) (v := ?_) (a' := ?_) #[true, true, true, false, false, false, false, false, false, false, false, false, false, false] rfl rfl (by kernel_rfl) (fun _ _ _ h => h) (Or.inl ⟨by rfl, ?_⟩) ?_ ?_
            rotate_left
            · intro w'
              go_simp
              with_reducible rfl
            rotate_left
            · simp only [Act.put, List.setIfInBounds_toArray, List.set_cons_zero, List.set_cons_succ, i64_w, i32_w]
              rfl
            refine pure_ (i := 3) (N := some 41) (v := ?_) (a' := ?_) #[true, true, true, true, false, false, false, false, false, false, false, false, false, false] rfl rfl (by kernel_rfl) (fun _ _ _ h => h) (Or.inl ⟨by rfl, ?_⟩) ?_ ?_
            rotate_left
            · intro w'
              go_simp
              with_reducible rfl
            rotate_left
            · simp only [Act.put, List.setIfInBounds_toArray, List.set_cons_zero, List.set_cons_succ, i64_w, i32_w]
              rfl
            refine take_ (i := 4) (N := some 42) (v := ?_) (a' := ?_) #[true, true, true, true, true, false, false, false, false, false, false, false, false, false] rfl rfl (by kernel_rfl) (fun _ _ _ h => h) (Or.inl ⟨by rfl, ?_⟩) hHeld ?_ ?_
            rotate_left
            · rintro w' ⟨s0, s1⟩
              go_simp
              with_reducible rfl
            rotate_left
            · simp only [Act.put, List.setIfInBounds_toArray, List.set_cons_zero, List.set_cons_succ, i64_w, i32_w]
              rfl
            refine pure_ (i := 5) (N := some 43) (v := ?_) (a' := ?_) #[true, true, true, true, true, true, false, false, false, false, false, false, false, false] rfl rfl (by kernel_rfl) (fun _ _ _ h => h) (Or.inl ⟨by rfl, ?_⟩) ?_ ?_
            rotate_left
            · intro w'
              go_simp
              with_reducible rfl
            rotate_left
            · simp only [Act.put, List.setIfInBounds_toArray, List.set_cons_zero, List.set_cons_succ, i64_w, i32_w]
              rfl
            refine pure_ (i := 6) (N := some 44) (v := ?_) (a' := ?_) #[true, true, true, true, true, true, true, false, false, false, false, false, false, false] rfl rfl (by kernel_rfl) (fun _ _ _ h => h) (Or.inl ⟨by rfl, ?_⟩) ?_ ?_
            rotate_left
            · intro w'
              go_simp
              with_reducible rfl
            rotate_left
            · simp only [Act.put, List.setIfInBounds_toArray, List.set_cons_zero, List.set_cons_succ, i64_w, i32_w]
              rfl
            refine one_ (i := 7) (N := some 45) #[true, true, true, true, true, true, true, true, false, false, false, false, false, false] rfl rfl (by kernel_rfl) (by decide) (fun K hK => ?_)
            refine goes_ Try.func91 (by kernel_rfl) rfl #[.pointer (some ⟨wa, 0, none⟩)] (by rfl) rfl rfl (by (try simp only [List.map_toArray, List.map_cons, List.map_nil]); first | done | rfl) ?_
            with_reducible refine (HLEN.out).mono ?_
            rintro e w3 ⟨rfl, rfl⟩
            refine ⟨_, rfl, ?_⟩
            refine hK.out _ _ ⟨cl3, fl3⟩ (fun hHeld => ?_)
            clear hK K
            refine norm_ (a' := ?_) ?_ ?_
            rotate_left
            · show Act.put _ (some 45) _ = _
              simp only [Act.put, List.setIfInBounds_toArray, List.set_cons_zero, List.set_cons_succ, i64_w, i32_w]
              rfl
            refine pure_ (i := 8) (N := some 46) (v := ?_) (a' := ?_) #[true, true, true, true, true, true, true, true, true, false, false, false, false, false] rfl rfl (by kernel_rfl) (fun _ _ _ h => h) (Or.inl ⟨by rfl, ?_⟩) ?_ ?_
            rotate_left
            · intro w'
              go_simp
              with_reducible rfl
            rotate_left
            · simp only [Act.put, List.setIfInBounds_toArray, List.set_cons_zero, List.set_cons_succ, i64_w, i32_w]
              rfl
            refine one_ (i := 9) (N := some 47) #[true, true, true, true, true, true, true, true, true, true, false, false, false, false] rfl rfl (by kernel_rfl) (by decide) (fun K hK => ?_)
            refine value_ (w1 := ?_) (v := ?_) (by rfl) rfl ?_ ?_
            rotate_left 2
            · go_simp
              constructor
              · rfl
              · rfl
            refine hK.out _ _ ⟨cl3b _, fl3b _⟩ (fun hHeld => ?_)
            clear hK K
            refine norm_ (a' := ?_) ?_ ?_
            rotate_left
            · show Act.put _ (some 47) _ = _
              simp only [Act.put, List.setIfInBounds_toArray, List.set_cons_zero, List.set_cons_succ, i64_w, i32_w]
              rfl
            refine one_ (i := 10) (N := some 48) #[true, true, true, true, true, true, true, true, true, true, true, false, false, false] rfl rfl (by kernel_rfl) (by decide) (fun K hK => ?_)
            refine step_append_cells (w0 := w) (W := W.drew) w.heap.size (by rfl) (.tmp 42) (.tmp 47) 90 94 (.agg #[.int .i64 0, .int .i64 0]) 2 16 rfl (show Try.prog.underlying 90 = some (.slice 94) by kernel_rfl) (by kernel_rfl) rfl (by decide) (by decide) _ (Po.cnt i) (skv l (Po.cnt i)) [.int .i64 p, .int .i64 (bt : Nat)] rfl rfl rfl HONE.out HSK.out HBW.out HBS.out HCN.out ?_
            intro sv1 w4 hown hbel hgr _
            obtain ⟨sA1, sC1, rfl⟩ := own_slice hown
            have h4 := Bd.grown HBD.out HK16.out HP.out HBT.out hown hbel hgr
            have H4 := Lib.hid h4
            clear hown hbel hgr h4
            refine hK.out _ _ ⟨H4.out.c3, H4.out.f3⟩ (fun hHeld => ?_)
            clear hK K
            refine norm_ (a' := ?_) ?_ ?_
            rotate_left
            · show Act.put _ (some 48) _ = _
              simp only [Act.put, List.setIfInBounds_toArray, List.set_cons_zero, List.set_cons_succ, i64_w, i32_w]
              rfl
            refine pure_ (i := 11) (N := some 49) (v := ?_) (a' := ?_) #[true, true, true, true, true, true, true, true, true, true, true, true, false, false] rfl rfl (by kernel_rfl) (fun _ _ _ h => h) (Or.inl ⟨by rfl, ?_⟩) ?_ ?_
            rotate_left
            · intro w'
              go_simp
              with_reducible rfl
            rotate_left
            · simp only [Act.put, List.setIfInBounds_toArray, List.set_cons_zero, List.set_cons_succ, i64_w, i32_w]
              rfl
            refine pure_ (i := 12) (N := some 50) (v := ?_) (a' := ?_) #[true, true, true, true, true, true, true, true, true, true, true, true, true, false] rfl rfl (by kernel_rfl) (fun _ _ _ h => h) (Or.inl ⟨by rfl, ?_⟩) ?_ ?_
            rotate_left
            · intro w'
              go_simp
              with_reducible rfl
            rotate_left
            · simp only [Act.put, List.setIfInBounds_toArray, List.set_cons_zero, List.set_cons_succ, i64_w, i32_w]
              rfl
            refine last_ (i := 13) (N := none) #[true, true, true, true, true, true, true, true, true, true, true, true, true, true] rfl rfl (by kernel_rfl) (by decide) (fun K hK => ?_)
            have cl4 := H4.out.c3
            have fl4 := H4.out.f3
            refine skip_ (w1 := ?_) (by rfl) rfl ?_ ?_
            rotate_left
            · go_simp
              rfl
            refine hK.out _ _ ?_
            clear hK K
            refine done_ (by kernel_rfl) ?_
            generalize hW5 : w4.setCell ⟨la, 3, none⟩ _ = W5 at *
            have H5 := H4.out.fin
            rw [hW5] at H5
            have HBD5 := Lib.hid H5
            clear H5 hW5
            go_wp2_with (go_at_call 92; (with_reducible refine (HD.out _ _ HBD5.out.wrt).mono ?_); rintro e w5 ⟨rfl, v5, hw5, hn5⟩; have HW5 := Lib.hid hw5; have HN5 := Lib.hid hn5; clear hw5 hn5)
            go_roundg (l.length - (i + 1))
            case measure => omega
            case rel =>
              obtain ⟨k1, k2, k3⟩ := HBD5.out.delta HN5.out
              exact ⟨i + 1, v5, _, _, rfl, by rw [HBN.out], rfl, by omega, by omega, HCH1.out, ⟨k3, HBD5.out.low, k1, HW5.out, by rw [HC1.out]; exact k2⟩⟩
          · have hd4 : decide (((i : Int) % 16) = 0) = false := by simp; omega
            have HCN : Hid (Po.cnt (i + 1) = Po.cnt i) := Lib.hid (by unfold Po.cnt; omega)
            go_wp2_with (go_at_call 92; (with_reducible refine (HD.out _ _ HBD.out.wrt).mono ?_); rintro e w5 ⟨rfl, v5, hw5, hn5⟩; have HW5 := Lib.hid hw5; have HN5 := Lib.hid hn5; clear hw5 hn5)
            go_roundg (l.length - (i + 1))
            case measure => omega
            case rel =>
              obtain ⟨k1, k2, k3⟩ := HBD.out.delta HN5.out
              exact ⟨i + 1, v5, sv, _, rfl, by rw [HBN.out], rfl, by omega, by omega, HCH1.out, ⟨k3, HBD.out.low, k1, HW5.out, by rw [HCN.out]; exact k2⟩⟩
    · obtain rfl : i = l.length := by omega
      have hzi : decide ((l.length : Int) < (l.length : Int)) = false := by simp
      have hbl : (Po.bits l l.length).length ≤ 42 * l.length := bits_small l l.length ((Po.chk_zero l l.length).1 HCH.out)
      have HG := Lib.hid (bytesW_calls w.heap.size wa v (Po.bits l l.length) W HBD.out.wrt (by omega))
      have HL : Hid (∀ w3, Below W.heap.size W w3 → Calls Try.prog 91 #[.pointer (some ⟨wa, 0, none⟩)] w3 fun e w' => e = .returned (.int .i64 ((Po.bits l l.length).length : Nat)) ∧ w' = w3) := Lib.hid (fun w3 h3 => lenW_calls wa _ w3 ((blk_cell (blk_below HBD.out.wrt.blk h3) 1).trans rfl))
      clear hbl
      go_wp2_with (first
        | (go_at_call 93; (with_reducible refine HG.out.mono ?_); rintro e w3 ⟨gv, rfl, hg, hb⟩
           ; have hk3 := blk_below HBD.out.blk hb
           ; have d2 : w3.cell? ⟨la, 2, none⟩ = some (.slice none 0 0) := (blk_cell hk3 2).trans rfl
           ; have d1 : w3.cell? ⟨la, 1, none⟩ = some (.int .i64 0) := (blk_cell hk3 1).trans rfl
           ; have e2 : w3.frozen? ⟨la, 2, none⟩ = false := blk_frozen hk3 2
           ; have e1 : w3.frozen? ⟨la, 1, none⟩ = false := blk_frozen hk3 1
           ; obtain ⟨gA, gC, rfl⟩ := own_slice hg
           ; have HGO := Lib.hid hg; have HGB := Lib.hid hb; have HK3 := Lib.hid hk3; clear hg hb hk3)
        | (go_at_call 91; (with_reducible refine (HL.out _ HGB.out).mono ?_); rintro e w4 ⟨rfl, rfl⟩))
      go_ret2
      have hb3 := HBD.out.bel.trans (HGB.out.mono HBD.out.bel.size)
      have hlo := HBD.out.low
      refine ⟨.inr ⟨by rw [HE.out]; exact HCH.out, la, .slice gA (Po.pack (Po.bits l l.length)).length gC, sv, rfl, hlo, (Po.chk_zero l l.length).1 HCH.out, by omega, ?_, ?_, ?_⟩, (hb3.setCell hlo _).setCell hlo _⟩
      · have h1 := blk_set (blk_set HK3.out 2 (.slice gA (Po.pack (Po.bits l l.length)).length gC)) 1 (.int .i64 ((Po.bits l l.length).length : Nat))
        simpa using h1
      · have h1 := own_less HGO.out HBD.out.bel.size
        have hne := own_apart h1 HK3.out (by decide)
        exact own_setCell (own_setCell h1 (fun e => hne e.symm) _) (fun e => hne e.symm) _
      · have h1 := own_later HBD.out.sk HGB.out
        have hne := own_apart h1 HK3.out (by decide)
        exact own_setCell (own_setCell h1 (fun e => hne e.symm) _) (fun e => hne e.symm) _

end Go.Proofs.Ytmeojlamadcedaa

namespace Go.Proofs.Ytmeojlamadcedaa
open Go.RowKit Go.Sort Go.Proofs.YtmeojlamadcedaaW.PrintWords

/-- A bit reader at block a: its bytes, the bits that it may read, its position. -/
structure Rd (base : Nat) (w : World) (a : Nat) (v : Value) (by_ : List UInt8) (bl : List Bool) (pos : Nat) : Prop where
  low : base ≤ a
  blk : w.heap[a]? = some (.cells #[v, .int .i64 (bl.length : Nat), .int .i64 (pos : Nat)] 138 (0, 0))
  row : w.ownsRow base 5 1 v by_.length (vals by_)
  size : bl.length ≤ 8 * by_.length
  small : by_.length < 10000000000
  at_ : pos ≤ bl.length
  bits : Po.unpack by_ bl.length = bl
theorem Rd.later {base : Nat} {w w1 : World} {a : Nat} {v : Value} {by_ : List UInt8} {bl : List Bool} {pos : Nat} (h : Rd base w a v by_ bl pos) (hb : Below w.heap.size w w1) : Rd base w1 a v by_ bl pos :=
  ⟨h.low, blk_below h.blk hb, own_later h.row hb, h.size, h.small, h.at_, h.bits⟩
theorem Rd.moved {base : Nat} {w : World} {a : Nat} {v : Value} {by_ : List UInt8} {bl : List Bool} {pos : Nat} (h : Rd base w a v by_ bl pos) (p : Nat) (hp : p ≤ bl.length) : Rd base (w.setCell ⟨a, 2, none⟩ (.int .i64 (p : Nat))) a v by_ bl p :=
  ⟨h.low, by have h1 := blk_set h.blk 2 (.int .i64 (p : Nat)); simpa using h1, own_setCell h.row (fun e => own_apart h.row h.blk (by decide) e.symm) _, h.size, h.small, hp, h.bits⟩

set_option maxHeartbeats 2000000 in
set_option maxRecDepth 100000 in
theorem bit_calls (base a pos : Nat) (v : Value) (by_ : List UInt8) (bl : List Bool) (i : Nat) (w : World) (hR : Rd base w a v by_ bl pos) (hi : i < bl.length) :
    Calls Try.prog 111 #[.pointer (some ⟨a, 0, none⟩), .int .i64 (i : Nat)] w fun e w' => e = .returned (.int .u64 ((bl.getD i false).toNat : Nat)) ∧ w' = w := by
  have hsz := hR.size
  have hsm := hR.small
  obtain ⟨g, c, rfl, hgc⟩ := own_some hR.row (by omega)
  have c0 : w.cell? ⟨a, 0, none⟩ = some (.slice (some ⟨g, 0, none⟩) by_.length c) := (blk_cell hR.blk 0).trans rfl
  obtain ⟨j, hj⟩ : ∃ j, i / 8 = j := ⟨_, rfl⟩
  obtain ⟨r, hr⟩ : ∃ r, i % 8 = r := ⟨_, rfl⟩
  obtain ⟨x, hx⟩ : ∃ x, (by_.getD j 0).toNat = x := ⟨_, rfl⟩
  have cb : w.cell? ⟨g, j, none⟩ = some (.int .u8 (x : Nat)) := by
    rw [hR.row.cellAt _ (by omega), vals, List.getElem?_map, ← hx, List.getD_eq_getElem?_getD, List.getElem?_eq_getElem (by omega)]; rfl
  have hx8 : x < 256 := by rw [← hx]; exact (by_.getD j 0).toNat_lt
  have h7 := and_seven (v := i) (by omega)
  rw [hr] at h7
  have hdiv : (i : Int) / 8 = (j : Int) := by omega
  have hj0 : (0 : Int) ≤ (j : Int) := by omega
  have hjm : (j : Int) < (by_.length : Int) := by omega
  obtain ⟨q, hq⟩ : ∃ q, 7 - r = q := ⟨_, rfl⟩
  have hqi : RowKit.wrap64 (7 - (r : Int)) = (q : Int) := by unfold RowKit.wrap64; omega
  have hqi2 : (7 : Int) - (r : Int) = (q : Int) := by omega
  have hq0 : (0 : Int) ≤ (q : Int) := by omega
  have hq8 : (q : Int) ≤ 8 := by omega
  have hy : x / 2 ^ q < 256 := Nat.lt_of_le_of_lt (Nat.div_le_self _ _) hx8
  obtain ⟨y, hyd⟩ : ∃ y, x / 2 ^ q = y := ⟨_, rfl⟩
  have hys : (x : Int) / 2 ^ q = (y : Int) := by rw [← hyd, Int.natCast_ediv, Int.natCast_pow]; rfl
  rw [hyd] at hy
  have hyw : IntKind.u64.wrap (y : Int) = (y : Int) := by simp [IntKind.wrap, IntKind.bits, IntKind.signed]; omega
  have hand := and_one_u64 (y : Int) (by omega) (by omega)
  have hres : Hid (((y : Int) % 2) = ((bl.getD i false).toNat : Nat)) := Lib.hid (by
    have h1 := Po.unpack_at by_ bl.length i hi
    rw [hR.bits] at h1
    rw [h1]
    unfold Po.bitAt
    rw [hj, hr, hx, hq, hyd]
    rcases Nat.mod_two_eq_zero_or_one y with h | h <;> simp [h] <;> omega)
  clear hR hi hsz hsm hj hr hx hq hyd
  go_enter Try.func111, Try.ntmps111
  go_wp2
  go_ret
  exact ⟨by rw [← hres.out]; rfl, rfl⟩

theorem or_u64 {v b : Nat} (hv : v < 9223372036854775808) (hb : b < 2) : Go.bits .or .u64 ((v : Int) * 2) ((b : Nat) : Int) = ((2 * v + b : Nat) : Int) := by
  rw [show (v : Int) * 2 = ((v * 2 : Nat) : Int) from rfl, u64_or_nat _ _ (by omega) (by omega)]
  have h1 := Nat.shiftLeft_add_eq_or_of_lt (a := v) (b := b) (i := 1) (by omega)
  rw [Nat.shiftLeft_eq, Nat.pow_one] at h1
  rw [← h1, Nat.mul_comm]

set_option maxHeartbeats 2000000 in
set_option maxRecDepth 100000 in
theorem take_calls (base a pos : Nat) (v : Value) (by_ : List UInt8) (bl : List Bool) (p n : Nat) (w : World) (hR : Rd base w a v by_ bl pos) (hp : p ≤ bl.length) (hn : n ≤ 64) (hpn : p + n ≤ bl.length) :
    Calls Try.prog 107 #[.pointer (some ⟨a, 0, none⟩), .int .i64 (p : Nat), .int .i64 (n : Nat)] w fun e w' => e = .returned (.tuple #[.int .u64 (Po.num ((bl.drop p).take n) : Nat), .bool true]) ∧ w' = w := by
  have HS := Lib.hid (size_calls a bl.length w ((blk_cell hR.blk 1).trans rfl))
  have HB : Hid (∀ i, i < bl.length → Calls Try.prog 111 #[.pointer (some ⟨a, 0, none⟩), .int .i64 (i : Nat)] w fun e w' => e = .returned (.int .u64 ((bl.getD i false).toNat : Nat)) ∧ w' = w) := Lib.hid (fun i hi => bit_calls base a pos v by_ bl i w hR hi)
  have hsz := hR.size
  have hsm := hR.small
  have hd : RowKit.wrap64 ((bl.length : Int) - (p : Int)) = (bl.length : Int) - (p : Int) := by unfold RowKit.wrap64; omega
  have hz : decide ((bl.length : Int) - (p : Int) < (n : Int)) = false := by simp; omega
  clear hR
  go_enter Try.func107, Try.ntmps107
  go_wp2_with (go_at_call 102; (with_reducible refine HS.out.mono ?_); rintro e w' ⟨rfl, hw'⟩; obtain rfl := hw'.symm)
  go_loopg [8, 19] n (fun kx s8 s19 wr => ∃ (i : Nat), w = wr ∧ s8 = .int .u64 (Po.num ((bl.drop p).take i) : Nat) ∧ s19 = .int .i64 i ∧ i ≤ n ∧ n - i ≤ kx)
  case atStart => exact ⟨0, rfl, rfl, rfl, Nat.zero_le _, Nat.le_refl _⟩
  case round =>
    obtain ⟨i, rfl, rfl, rfl, hi, hk⟩ := hrel
    by_cases hlt : i < n
    · have hz2 : decide ((i : Int) < (n : Int)) = true := by simp; omega
      have hw1 : RowKit.wrap64 ((p : Int) + (i : Int)) = (p : Int) + (i : Int) := by unfold RowKit.wrap64; omega
      have hbit : Hid (Calls Try.prog 111 #[.pointer (some ⟨a, 0, none⟩), .int .i64 ((p : Int) + (i : Int))] w fun e w' => e = .returned (.int .u64 ((bl.getD (p + i) false).toNat : Nat)) ∧ w' = w) := Lib.hid (by
        have h := HB.out (p + i) (by omega)
        rwa [Int.natCast_add] at h)
      have hlen : ((bl.drop p).take i).length = i := by rw [List.length_take, List.length_drop]; omega
      have hv : Po.num ((bl.drop p).take i) < 2 ^ i := by have := Po.num_lt ((bl.drop p).take i); rwa [hlen] at this
      have hv63 : Po.num ((bl.drop p).take i) < 9223372036854775808 := Nat.lt_of_lt_of_le hv (show 2 ^ i ≤ 2 ^ 63 from Nat.pow_le_pow_right (by omega) (by omega))
      have hnext : Hid (Po.num ((bl.drop p).take (i + 1)) = 2 * Po.num ((bl.drop p).take i) + (bl.getD (p + i) false).toNat) := Lib.hid (by
        rw [List.take_add_one, List.getElem?_drop, List.getElem?_eq_getElem (by omega), Option.toList_some, Po.num_snoc, List.getD_eq_getElem?_getD, List.getElem?_eq_getElem (by omega)]; rfl)
      have hb2 : (bl.getD (p + i) false).toNat < 2 := by cases bl.getD (p + i) false <;> decide
      generalize Po.num ((bl.drop p).take i) = x at *
      generalize (bl.getD (p + i) false).toNat = b at *
      have HOR := Lib.hid (or_u64 hv63 hb2)
      have hsh : IntKind.u64.wrap ((x : Int) * 2) = (x : Int) * 2 := by
        simp [IntKind.wrap, IntKind.bits, IntKind.signed]; omega
      clear hv hlen hv63
      go_wp2_with (go_at_call 111; (with_reducible refine hbit.out.mono ?_); rintro e w' ⟨rfl, hw'⟩; obtain rfl := hw'.symm)
      go_roundg (n - (i + 1))
      case measure => omega
      case rel => exact ⟨i + 1, rfl, by rw [hnext.out, ← HOR.out], rfl, by omega, by omega⟩
    · have hz2 : decide ((i : Int) < (n : Int)) = false := by simp; omega
      obtain rfl : i = n := by omega
      go_wp2
      go_ret2
      exact ⟨rfl, rfl⟩

set_option maxHeartbeats 2000000 in
set_option maxRecDepth 100000 in
theorem take_short (base a pos : Nat) (v : Value) (by_ : List UInt8) (bl : List Bool) (p n : Nat) (w : World) (hR : Rd base w a v by_ bl pos) (hp : p ≤ bl.length) (hn : n ≤ 64) (hpn : bl.length < p + n) :
    Calls Try.prog 107 #[.pointer (some ⟨a, 0, none⟩), .int .i64 (p : Nat), .int .i64 (n : Nat)] w fun e w' => e = .returned (.tuple #[.int .u64 0, .bool false]) ∧ w' = w := by
  have HS := Lib.hid (size_calls a bl.length w ((blk_cell hR.blk 1).trans rfl))
  have hsz := hR.size
  have hsm := hR.small
  have hd : RowKit.wrap64 ((bl.length : Int) - (p : Int)) = (bl.length : Int) - (p : Int) := by unfold RowKit.wrap64; omega
  have hz : decide ((bl.length : Int) - (p : Int) < (n : Int)) = true := by simp; omega
  clear hR
  go_enter Try.func107, Try.ntmps107
  go_wp2_with (go_at_call 102; (with_reducible refine HS.out.mono ?_); rintro e w' ⟨rfl, hw'⟩; obtain rfl := hw'.symm)
  go_ret2
  exact ⟨rfl, rfl⟩
end Go.Proofs.Ytmeojlamadcedaa

namespace Go.Proofs.Ytmeojlamadcedaa
open Go.RowKit Go.Sort Go.Proofs.YtmeojlamadcedaaW.PrintWords

/-- What zeros answers, at most 63. -/
def zF (bl : List Bool) (p : Nat) : Nat × Int :=
  if 63 < Po.zc (bl.drop p) then (0, 9) else if bl.length ≤ p + Po.zc (bl.drop p) then (0, 10) else (Po.zc (bl.drop p), 0)

set_option maxHeartbeats 2000000 in
set_option maxRecDepth 100000 in
theorem zeros_calls (base a pos : Nat) (v : Value) (by_ : List UInt8) (bl : List Bool) (p : Nat) (w : World) (hR : Rd base w a v by_ bl pos) (hp : p ≤ bl.length) :
    Calls Try.prog 110 #[.pointer (some ⟨a, 0, none⟩), .int .i64 (p : Nat), .int .i64 63] w fun e w' => e = .returned (.tuple #[.int .i64 ((zF bl p).1 : Nat), .int .i64 (zF bl p).2]) ∧ w' = w := by
  have HS := Lib.hid (size_calls a bl.length w ((blk_cell hR.blk 1).trans rfl))
  have HB : Hid (∀ i, i < bl.length → Calls Try.prog 111 #[.pointer (some ⟨a, 0, none⟩), .int .i64 (i : Nat)] w fun e w' => e = .returned (.int .u64 ((bl.getD i false).toNat : Nat)) ∧ w' = w) := Lib.hid (fun i hi => bit_calls base a pos v by_ bl i w hR hi)
  have hsz := hR.size
  have hsm := hR.small
  have hzl : Po.zc (bl.drop p) ≤ bl.length - p := by have := Po.zc_le (bl.drop p); rwa [List.length_drop] at this
  have HZ0 : Hid (∀ i, i < Po.zc (bl.drop p) → bl.getD (p + i) false = false) := Lib.hid (fun i hi => by
    have h := Po.zc_zero (bl.drop p) i hi
    rwa [List.getD_eq_getElem?_getD, List.getElem?_drop, ← List.getD_eq_getElem?_getD] at h)
  have HZ1 : Hid (Po.zc (bl.drop p) < bl.length - p → bl.getD (p + Po.zc (bl.drop p)) false = true) := Lib.hid (fun h => by
    have h := Po.zc_one (bl.drop p) (by rw [List.length_drop]; exact h)
    rwa [List.getD_eq_getElem?_getD, List.getElem?_drop, ← List.getD_eq_getElem?_getD] at h)
  have HF : Hid (zF bl p = if 63 < Po.zc (bl.drop p) then (0, 9) else if bl.length ≤ p + Po.zc (bl.drop p) then (0, 10) else (Po.zc (bl.drop p), 0)) := Lib.hid rfl
  generalize Po.zc (bl.drop p) = z at *
  generalize hF : zF bl p = F at *
  clear hR hF
  go_enter Try.func110, Try.ntmps110
  go_wp2
  go_loopg [8] 64 (fun kx s8 wr => ∃ (n : Nat), w = wr ∧ s8 = .int .i64 n ∧ n ≤ 63 ∧ n ≤ z ∧ 64 - n ≤ kx)
  case atStart => exact ⟨0, rfl, rfl, by omega, Nat.zero_le _, by omega⟩
  case round =>
    obtain ⟨n, rfl, rfl, hn, hnz, hk⟩ := hrel
    have hw1 : RowKit.wrap64 ((p : Int) + (n : Int)) = (p : Int) + (n : Int) := by unfold RowKit.wrap64; omega
    by_cases hge : bl.length ≤ p + n
    · have hd : decide ((bl.length : Int) ≤ (p : Int) + (n : Int)) = true := by simp; omega
      have hFv : F = (0, 10) := by rw [HF.out, if_neg (by omega), if_pos (by omega)]
      have HFV := Lib.hid hFv
      clear hFv
      go_wp2_with (go_at_call 102; (with_reducible refine HS.out.mono ?_); rintro e w' ⟨rfl, hw'⟩; obtain rfl := hw'.symm)
      go_ret2
      exact ⟨by rw [HFV.out]; rfl, rfl⟩
    · have hd : decide ((bl.length : Int) ≤ (p : Int) + (n : Int)) = false := by simp; omega
      have hbit : Hid (Calls Try.prog 111 #[.pointer (some ⟨a, 0, none⟩), .int .i64 ((p : Int) + (n : Int))] w fun e w' => e = .returned (.int .u64 ((bl.getD (p + n) false).toNat : Nat)) ∧ w' = w) := Lib.hid (by
        have h := HB.out (p + n) (by omega)
        rwa [Int.natCast_add] at h)
      by_cases hlt : n < z
      · rw [HZ0.out n hlt] at hbit
        have hbit0 : Hid (Calls Try.prog 111 #[.pointer (some ⟨a, 0, none⟩), .int .i64 ((p : Int) + (n : Int))] w fun e w' => e = .returned (.int .u64 0) ∧ w' = w) := Lib.hid (by have h := hbit.out; exact h)
        clear hbit
        by_cases h63 : n = 63
        · have hd2 : ((n : Int) == 63) = true := by simp; omega
          have hFv : F = (0, 9) := by rw [HF.out, if_pos (by omega)]
          have HFV := Lib.hid hFv
          clear hFv h63
          go_wp2_with (first
            | (go_at_call 102; (with_reducible refine HS.out.mono ?_); rintro e w' ⟨rfl, hw'⟩; obtain rfl := hw'.symm)
            | (go_at_call 111; (with_reducible refine hbit0.out.mono ?_); rintro e w' ⟨rfl, hw'⟩; obtain rfl := hw'.symm))
          go_ret2
          exact ⟨by rw [HFV.out]; rfl, rfl⟩
        · have hd2 : ((n : Int) == 63) = false := by simp; omega
          have hn1 : RowKit.wrap64 ((n : Int) + 1) = (n : Int) + 1 := by unfold RowKit.wrap64; omega
          go_wp2_with (first
            | (go_at_call 102; (with_reducible refine HS.out.mono ?_); rintro e w' ⟨rfl, hw'⟩; obtain rfl := hw'.symm)
            | (go_at_call 111; (with_reducible refine hbit0.out.mono ?_); rintro e w' ⟨rfl, hw'⟩; obtain rfl := hw'.symm))
          go_roundg (64 - (n + 1))
          case measure => omega
          case rel => exact ⟨n + 1, rfl, rfl, by omega, by omega, by omega⟩
      · obtain rfl : z = n := by omega
        rw [HZ1.out (by omega)] at hbit
        have hbit1 : Hid (Calls Try.prog 111 #[.pointer (some ⟨a, 0, none⟩), .int .i64 ((p : Int) + (z : Int))] w fun e w' => e = .returned (.int .u64 1) ∧ w' = w) := Lib.hid (by have h := hbit.out; exact h)
        have hFv : F = (z, 0) := by rw [HF.out, if_neg (by omega), if_neg (by omega)]
        have HFV := Lib.hid hFv
        clear hFv hbit
        go_wp2_with (first
          | (go_at_call 102; (with_reducible refine HS.out.mono ?_); rintro e w' ⟨rfl, hw'⟩; obtain rfl := hw'.symm)
          | (go_at_call 111; (with_reducible refine hbit1.out.mono ?_); rintro e w' ⟨rfl, hw'⟩; obtain rfl := hw'.symm))
        go_ret2
        exact ⟨by rw [HFV.out]; rfl, rfl⟩

set_option maxHeartbeats 2000000 in
set_option maxRecDepth 100000 in
theorem gammaR_calls (base a pos : Nat) (v : Value) (by_ : List UInt8) (bl : List Bool) (p : Nat) (w : World) (hR : Rd base w a v by_ bl pos) (hp : p ≤ bl.length) :
    Calls Try.prog 106 #[.pointer (some ⟨a, 0, none⟩), .int .i64 (p : Nat)] w fun e w' => e = .returned (.tuple #[.int .u64 ((Po.gammaF bl p).1 : Nat), .int .i64 ((Po.gammaF bl p).2.1 : Nat), .int .i64 (Po.gammaF bl p).2.2]) ∧ w' = w := by
  have HZ := Lib.hid (zeros_calls base a pos v by_ bl p w hR hp)
  have hsz := hR.size
  have hsm := hR.small
  by_cases h1 : 63 < Po.zc (bl.drop p)
  · have hz : zF bl p = (0, 9) := by unfold zF; rw [if_pos h1]
    have hg : Po.gammaF bl p = (0, 0, 9) := by unfold Po.gammaF; rw [if_pos h1]
    rw [hz] at HZ
    have HG := Lib.hid hg
    clear hR hz hg
    go_enter Try.func106, Try.ntmps106
    go_wp2_with (go_at_call 110; (with_reducible refine HZ.out.mono ?_); rintro e w' ⟨rfl, hw'⟩; obtain rfl := hw'.symm)
    go_ret3
    exact ⟨by rw [HG.out]; rfl, rfl⟩
  · by_cases h2 : bl.length ≤ p + Po.zc (bl.drop p)
    · have hz : zF bl p = (0, 10) := by unfold zF; rw [if_neg h1, if_pos h2]
      have hg : Po.gammaF bl p = (0, 0, 10) := by unfold Po.gammaF; rw [if_neg h1, if_pos h2]
      rw [hz] at HZ
      have HG := Lib.hid hg
      clear hR hz hg
      go_enter Try.func106, Try.ntmps106
      go_wp2_with (go_at_call 110; (with_reducible refine HZ.out.mono ?_); rintro e w' ⟨rfl, hw'⟩; obtain rfl := hw'.symm)
      go_ret3
      exact ⟨by rw [HG.out]; rfl, rfl⟩
    · have hz : zF bl p = (Po.zc (bl.drop p), 0) := by unfold zF; rw [if_neg h1, if_neg h2]
      rw [hz] at HZ
      have hw1 : RowKit.wrap64 ((p : Int) + (Po.zc (bl.drop p) : Nat)) = (p : Int) + (Po.zc (bl.drop p) : Nat) := by unfold RowKit.wrap64; omega
      have hw2 : RowKit.wrap64 ((Po.zc (bl.drop p) : Nat) + 1) = ((Po.zc (bl.drop p) : Nat) : Int) + 1 := by unfold RowKit.wrap64; omega
      by_cases h3 : bl.length < p + Po.zc (bl.drop p) + (Po.zc (bl.drop p) + 1)
      · have hg : Po.gammaF bl p = (0, 0, 10) := by unfold Po.gammaF; rw [if_neg h1, if_neg h2, if_pos h3]
        have HT : Hid (Calls Try.prog 107 #[.pointer (some ⟨a, 0, none⟩), .int .i64 ((p : Int) + (Po.zc (bl.drop p) : Nat)), .int .i64 ((Po.zc (bl.drop p) : Nat) + 1)] w fun e w' => e = .returned (.tuple #[.int .u64 0, .bool false]) ∧ w' = w) := Lib.hid (by
          have h := take_short base a pos v by_ bl (p + Po.zc (bl.drop p)) (Po.zc (bl.drop p) + 1) w hR (by omega) (by omega) (by omega)
          rwa [Int.natCast_add] at h)
        have HG := Lib.hid hg
        clear hR hz hg
        generalize Po.zc (bl.drop p) = z at *
        go_enter Try.func106, Try.ntmps106
        go_wp2_with (first
          | (go_at_call 110; (with_reducible refine HZ.out.mono ?_); rintro e w' ⟨rfl, hw'⟩; obtain rfl := hw'.symm)
          | (go_at_call 107; (with_reducible refine HT.out.mono ?_); rintro e w' ⟨rfl, hw'⟩; obtain rfl := hw'.symm))
        go_ret3
        exact ⟨by rw [HG.out]; rfl, rfl⟩
      · have hg : Po.gammaF bl p = (Po.num ((bl.drop (p + Po.zc (bl.drop p))).take (Po.zc (bl.drop p) + 1)), p + 2 * Po.zc (bl.drop p) + 1, 0) := by unfold Po.gammaF; rw [if_neg h1, if_neg h2, if_neg h3]
        have HT : Hid (Calls Try.prog 107 #[.pointer (some ⟨a, 0, none⟩), .int .i64 ((p : Int) + (Po.zc (bl.drop p) : Nat)), .int .i64 ((Po.zc (bl.drop p) : Nat) + 1)] w fun e w' => e = .returned (.tuple #[.int .u64 (Po.num ((bl.drop (p + Po.zc (bl.drop p))).take (Po.zc (bl.drop p) + 1)) : Nat), .bool true]) ∧ w' = w) := Lib.hid (by
          have h := take_calls base a pos v by_ bl (p + Po.zc (bl.drop p)) (Po.zc (bl.drop p) + 1) w hR (by omega) (by omega) (by omega)
          rwa [Int.natCast_add] at h)
        have HG := Lib.hid hg
        have hw3 : RowKit.wrap64 (2 * ((Po.zc (bl.drop p) : Nat) : Int)) = 2 * ((Po.zc (bl.drop p) : Nat) : Int) := by unfold RowKit.wrap64; omega
        have hw4 : RowKit.wrap64 ((p : Int) + 2 * ((Po.zc (bl.drop p) : Nat) : Int)) = (p : Int) + 2 * ((Po.zc (bl.drop p) : Nat) : Int) := by unfold RowKit.wrap64; omega
        have hw5 : RowKit.wrap64 ((p : Int) + 2 * ((Po.zc (bl.drop p) : Nat) : Int) + 1) = (p : Int) + 2 * ((Po.zc (bl.drop p) : Nat) : Int) + 1 := by unfold RowKit.wrap64; omega
        clear hR hz hg
        generalize Po.num ((bl.drop (p + Po.zc (bl.drop p))).take (Po.zc (bl.drop p) + 1)) = x at *
        generalize Po.zc (bl.drop p) = z at *
        go_enter Try.func106, Try.ntmps106
        go_wp2_with (first
          | (go_at_call 110; (with_reducible refine HZ.out.mono ?_); rintro e w' ⟨rfl, hw'⟩; obtain rfl := hw'.symm)
          | (go_at_call 107; (with_reducible refine HT.out.mono ?_); rintro e w' ⟨rfl, hw'⟩; obtain rfl := hw'.symm))
        go_ret3
        refine ⟨?_, rfl⟩
        rw [HG.out]
        exact congrArg (fun q : Int => Ending.returned (.tuple #[.int .u64 (x : Nat), .int .i64 q, .int .i64 0])) (show (p : Int) + 2 * (z : Int) + 1 = ((p + 2 * z + 1 : Nat) : Int) by omega)
end Go.Proofs.Ytmeojlamadcedaa

namespace Go.Proofs.Ytmeojlamadcedaa
open Go.RowKit Go.Sort Go.Proofs.YtmeojlamadcedaaW.PrintWords

theorem Fr.one (w : World) (a j : Nat) (u : Value) : Fr (fun k => k = a) w (w.setCell ⟨a, j, none⟩ u) := Fr.set (S := fun k => k = a) (p := ⟨a, j, none⟩) (Fr.refl _ w) (.inl rfl) u

/-- What Delta leaves behind: the number and the error, the reader at its new position. -/
def DlPost (base a : Nat) (v : Value) (by_ : List UInt8) (bl : List Bool) (pos : Nat) (w : World) (e : Ending) (w' : World) : Prop :=
  e = .returned (.tuple #[.int .u64 ((Po.deltaF bl pos).1 : Nat), .int .i64 (Po.deltaF bl pos).2.2]) ∧ Rd base w' a v by_ bl (Po.deltaF bl pos).2.1 ∧ Fr (fun k => k = a) w w'

set_option maxHeartbeats 2000000 in
set_option maxRecDepth 100000 in
theorem deltaR_calls (base a pos : Nat) (v : Value) (by_ : List UInt8) (bl : List Bool) (w : World) (hR : Rd base w a v by_ bl pos) :
    Calls Try.prog 95 #[.pointer (some ⟨a, 0, none⟩)] w fun e w' => DlPost base a v by_ bl pos w e w' := by
  have HR := Lib.hid hR
  have hp := hR.at_
  have hsz := hR.size
  have hsm := hR.small
  have HG := Lib.hid (gammaR_calls base a pos v by_ bl pos w hR hp)
  have c2 : w.cell? ⟨a, 2, none⟩ = some (.int .i64 (pos : Nat)) := (blk_cell hR.blk 2).trans rfl
  have f2 : w.frozen? ⟨a, 2, none⟩ = false := blk_frozen hR.blk 2
  have hgp := Po.gammaF_pos bl pos
  have hD : Hid (Po.deltaF bl pos = if (Po.gammaF bl pos).2.2 ≠ 0 then (0, pos, (Po.gammaF bl pos).2.2)
    else if 64 < (Po.gammaF bl pos).1 then (0, pos, 9)
    else if bl.length < (Po.gammaF bl pos).2.1 + ((Po.gammaF bl pos).1 - 1) then (0, pos, 10)
    else (2 ^ ((Po.gammaF bl pos).1 - 1) + Po.num ((bl.drop (Po.gammaF bl pos).2.1).take ((Po.gammaF bl pos).1 - 1)), (Po.gammaF bl pos).2.1 + ((Po.gammaF bl pos).1 - 1), 0)) := Lib.hid rfl
  generalize Po.gammaF bl pos = G at *
  obtain ⟨m, at_, er⟩ := G
  generalize hDF : Po.deltaF bl pos = D at *
  have HDF := Lib.hid hDF
  clear hDF hR
  have hgp : er = 0 → 1 ≤ m ∧ at_ ≤ bl.length ∧ pos ≤ at_ := hgp
  by_cases he : er = 0
  · subst he
    obtain ⟨hm1, hat, hpa⟩ := hgp rfl
    by_cases h64 : 64 < m
    · have hDv : D = (0, pos, 9) := by rw [hD.out, if_neg (fun h => h rfl), if_pos h64]
      have HDV := Lib.hid hDv
      have hd : decide ((64 : Int) < (m : Int)) = true := by simp; omega
      clear hDv hD hgp
      go_enter Try.func95, Try.ntmps95
      go_wp2_with (go_at_call 106; (with_reducible refine HG.out.mono ?_); rintro e w' ⟨rfl, hw'⟩; obtain rfl := hw'.symm)
      go_ret2
      refine ⟨?_, ?_, Fr.refl _ _⟩
      · rw [HDF.out, HDV.out]; rfl
      · rw [HDF.out, HDV.out]; exact HR.out
    · have hd : decide ((64 : Int) < (m : Int)) = false := by simp; omega
      obtain ⟨n, hn⟩ : ∃ n, m - 1 = n := ⟨_, rfl⟩
      have hnm : RowKit.wrap64 ((m : Int) - 1) = (n : Int) := by unfold RowKit.wrap64; omega
      have hnm2 : (m : Int) - 1 = (n : Int) := by omega
      have hmw : RowKit.wrap64 (m : Int) = (m : Int) := by unfold RowKit.wrap64; omega
      have hD2 : Hid (D = if bl.length < at_ + n then (0, pos, 10) else (2 ^ n + Po.num ((bl.drop at_).take n), at_ + n, 0)) := Lib.hid (by
        rw [hD.out, if_neg (fun h => h rfl), if_neg h64]
        show (if bl.length < at_ + (m - 1) then _ else (2 ^ (m - 1) + Po.num ((bl.drop at_).take (m - 1)), at_ + (m - 1), (0 : Int))) = _
        rw [hn])
      have hn63 : n ≤ 63 := by omega
      clear hD hgp h64 hn
      by_cases hs : bl.length < at_ + n
      · have hDv : D = (0, pos, 10) := by rw [hD2.out, if_pos hs]
        have HDV := Lib.hid hDv
        have HT := Lib.hid (take_short base a pos v by_ bl at_ n w HR.out hat (by omega) hs)
        clear hDv hD2 hs
        go_enter Try.func95, Try.ntmps95
        go_wp2_with (first
          | (go_at_call 106; (with_reducible refine HG.out.mono ?_); rintro e w' ⟨rfl, hw'⟩; obtain rfl := hw'.symm)
          | (go_at_call 107; (with_reducible refine HT.out.mono ?_); rintro e w' ⟨rfl, hw'⟩; obtain rfl := hw'.symm))
        go_ret2
        refine ⟨?_, ?_, Fr.refl _ _⟩
        · rw [HDF.out, HDV.out]; rfl
        · rw [HDF.out, HDV.out]; exact HR.out
      · have HM := Lib.hid (HR.out.moved (at_ + n) (by omega))
        have hwa : RowKit.wrap64 ((at_ : Int) + (n : Int)) = (at_ : Int) + (n : Int) := by unfold RowKit.wrap64; omega
        have hDv : D = (2 ^ n + Po.num ((bl.drop at_).take n), at_ + n, 0) := by rw [hD2.out, if_neg hs]
        have HDV := Lib.hid hDv
        have HT := Lib.hid (take_calls base a pos v by_ bl at_ n w HR.out hat (by omega) (by omega))
        have hlen : ((bl.drop at_).take n).length = n := by rw [List.length_take, List.length_drop]; omega
        have hx : Po.num ((bl.drop at_).take n) < 2 ^ n := by have := Po.num_lt ((bl.drop at_).take n); rwa [hlen] at this
        have hn0 : (0 : Int) ≤ (n : Int) := by omega
        have hn64 : (n : Int) ≤ 64 := by omega
        generalize Po.num ((bl.drop at_).take n) = x at *
        have hp63 : 2 ^ n ≤ 2 ^ 63 := Nat.pow_le_pow_right (by omega) hn63
        have hpw : IntKind.u64.wrap ((2 : Int) ^ n) = (2 : Int) ^ n := by
          rw [show (2 : Int) ^ n = ((2 ^ n : Nat) : Int) by rw [Int.natCast_pow]; rfl]
          generalize 2 ^ n = q at *
          simp [IntKind.wrap, IntKind.bits, IntKind.signed]; omega
        have hpm : (2 : Int) ^ n % 18446744073709551616 = (2 : Int) ^ n := by
          rw [show (2 : Int) ^ n = ((2 ^ n : Nat) : Int) by rw [Int.natCast_pow]; rfl]
          generalize 2 ^ n = q at *
          omega
        have HOR : Hid (bits .or .u64 ((2 : Int) ^ n) (x : Nat) = ((2 ^ n + x : Nat) : Int)) := Lib.hid (by
          rw [show (2 : Int) ^ n = ((2 ^ n : Nat) : Int) by rw [Int.natCast_pow]; rfl, u64_or_nat _ _ (by omega) (by omega)]
          have h1 := Nat.shiftLeft_add_eq_or_of_lt (a := 1) (b := x) (i := n) hx
          rw [Nat.shiftLeft_eq, Nat.one_mul] at h1
          rw [← h1])
        clear hDv hD2 hs hlen hp63 hx
        go_enter Try.func95, Try.ntmps95
        go_wp2_with (first
          | (go_at_call 106; (with_reducible refine HG.out.mono ?_); rintro e w' ⟨rfl, hw'⟩; obtain rfl := hw'.symm)
          | (go_at_call 107; (with_reducible refine HT.out.mono ?_); rintro e w' ⟨rfl, hw'⟩; obtain rfl := hw'.symm))
        go_ret2
        refine ⟨?_, ?_, Fr.one w a 2 _⟩
        · rw [HDF.out, HDV.out, ← HOR.out]; rfl
        · rw [HDF.out, HDV.out]; exact HM.out
  · have hDv : D = (0, pos, er) := by rw [hD.out, if_pos he]
    have HDV := Lib.hid hDv
    have hd : (er != 0) = true := by simpa using he
    have hd2 : (er == 0) = false := by simpa using he
    clear hDv hD hgp
    go_enter Try.func95, Try.ntmps95
    go_wp2_with (go_at_call 106; (with_reducible refine HG.out.mono ?_); rintro e w' ⟨rfl, hw'⟩; obtain rfl := hw'.symm)
    go_ret2
    refine ⟨?_, ?_, Fr.refl _ _⟩
    · rw [HDF.out, HDV.out]; rfl
    · rw [HDF.out, HDV.out]; exact HR.out

set_option maxHeartbeats 2000000 in
set_option maxRecDepth 100000 in
theorem seekR_calls (base a pos : Nat) (v : Value) (by_ : List UInt8) (bl : List Bool) (p : Nat) (w : World) (hR : Rd base w a v by_ bl pos) (hp : p ≤ bl.length) :
    Calls Try.prog 98 #[.pointer (some ⟨a, 0, none⟩), .int .i64 (p : Nat)] w fun e w' => e = .returned (.int .i64 0) ∧ Rd base w' a v by_ bl p ∧ Fr (fun k => k = a) w w' := by
  have HS := Lib.hid (size_calls a bl.length w ((blk_cell hR.blk 1).trans rfl))
  have c2 : w.cell? ⟨a, 2, none⟩ = some (.int .i64 (pos : Nat)) := (blk_cell hR.blk 2).trans rfl
  have f2 : w.frozen? ⟨a, 2, none⟩ = false := blk_frozen hR.blk 2
  have HM := Lib.hid (hR.moved p hp)
  have hd : decide ((p : Int) < 0) = false := by simp
  have hd2 : decide ((bl.length : Int) < (p : Int)) = false := by simp; omega
  clear hR
  go_enter Try.func98, Try.ntmps98
  go_wp2_with (go_at_call 102; (with_reducible refine HS.out.mono ?_); rintro e w' ⟨rfl, hw'⟩; obtain rfl := hw'.symm)
  go_ret
  exact ⟨rfl, HM.out, Fr.one w a 2 _⟩
theorem unpack_take (b : List UInt8) (n m : Nat) (h : n ≤ 8 * m) : Po.unpack (b.take m) n = Po.unpack b n := by
  unfold Po.unpack
  refine List.map_congr_left fun i hi => ?_
  have hi := List.mem_range.mp hi
  unfold Po.bitAt
  rw [List.getD_eq_getElem?_getD, List.getElem?_take_of_lt (by omega), ← List.getD_eq_getElem?_getD]

set_option maxHeartbeats 2000000 in
set_option maxRecDepth 100000 in
theorem newR_calls (A : Option Addr) (c n : Nat) (by_ : List UInt8) (w : World) (hr : ReadsInt w .u8 A by_.length (Given.ints by_)) (hc : by_.length ≤ c) (hn : n ≤ 8 * by_.length) (hsm : by_.length < 1000000000) :
    Calls Try.prog 94 #[.slice A by_.length c, .int .i64 (n : Nat)] w fun e w' => ∃ a v, e = .returned (.tuple #[.pointer (some ⟨a, 0, none⟩), .int .i64 0]) ∧ Rd w.heap.size w' a v (by_.take ((n + 7) / 8)) (Po.unpack by_ n) 0 ∧ Below w.heap.size w w' := by
  have hd : decide ((n : Int) < 0) = false := by simp
  have hm8 : RowKit.wrap64 (8 * (by_.length : Int)) = 8 * (by_.length : Int) := by unfold RowKit.wrap64; omega
  have hd2 : decide (8 * (by_.length : Int) < (n : Int)) = false := by simp; omega
  obtain ⟨q, hq⟩ : ∃ q, (n + 7) / 8 = q := ⟨_, rfl⟩
  have hw7 : RowKit.wrap64 ((n : Int) + 7) = (n : Int) + 7 := by unfold RowKit.wrap64; omega
  have hqd : Int.tdiv ((n : Int) + 7) 8 = (q : Int) := by
    rw [Int.tdiv_eq_ediv_of_nonneg (by omega)]; omega
  have hqe : ((n : Int) + 7) / 8 = (q : Int) := by omega
  have hqw : RowKit.wrap64 (q : Int) = (q : Int) := by unfold RowKit.wrap64; omega
  have hq0 : (0 : Int) ≤ (q : Int) := by omega
  have hql : (q : Int) ≤ (by_.length : Int) := by omega
  have hqc : (q : Int) ≤ (c : Int) := by omega
  have hqn : q ≤ by_.length := by omega
  have htl : (by_.take q).length = q := by rw [List.length_take]; omega
  have HRR : Hid (ReadsInt (w.alloc (.cells #[] 5)) .u8 A q (Given.ints (by_.take q))) := Lib.hid (by
    refine ReadsInt.allocS ⟨by rw [Given.ints_len, htl], by omega, fun h0 => ?_⟩ _
    obtain ⟨ad, e, hcell⟩ := hr.2.2 (by omega)
    refine ⟨ad, e, fun j hj => ?_⟩
    rw [hcell j (by omega), Given.at_ints, Given.at_ints, List.getD_eq_getElem?_getD, List.getD_eq_getElem?_getD, List.getElem?_take_of_lt hj])
  have hmx : Hid ((([] : List Int).length + q) * 1 ≤ 140737488355328) := Lib.hid (by simp; omega)
  have HO : Hid ((w.alloc (.cells #[] 5)).ownsRow w.heap.size 5 1 (.slice (some ⟨w.heap.size, 0, none⟩) 0 0) ([] : List Int).length (nums .u8 [])) := Lib.hid (World.ownsRow_lit w #[] 0 (Nat.le_refl _) (by simp [maxLen]) rfl)
  have HQ : Hid (q = (n + 7) / 8 ∧ n ≤ 8 * q ∧ q < 1000000000) := Lib.hid (by omega)
  have HTL := Lib.hid htl
  clear hr hq htl hn hsm
  go_enter Try.func94, Try.ntmps94
  go_wp2_with (first
    | ((with_reducible refine gate_dst (N := 21) rfl ?_); refine print_append_row (w0 := w) (W := w.alloc (.cells #[] 5)) w.heap.size rfl (.tmp 15) (.tmp 20) 22 5 .u8 1 rfl (show Try.prog.underlying 22 = some (.slice 5) by kernel_rfl) (by kernel_rfl) (by decide) (.slice (some ⟨w.heap.size, 0, none⟩) 0 0) [] (Given.ints (by_.take q)) A q c rfl rfl HO.out HRR.out ((Below.refl _ w).alloc (Nat.le_refl _) _) (by simp) hmx.out ?_
       ; intro v1 w1 hown hb _ _
       ; obtain ⟨gA, gC, rfl⟩ := own_slice hown
       ; have HOWN := Lib.hid (vals_own HTL.out.symm (by rwa [List.nil_append] at hown)); have HBEL := Lib.hid hb; clear hown hb))
  go_ret2
  rw [← HQ.out.1]
  have hul : (Po.unpack by_ n).length = n := Po.unpack_len _ _
  have hb := HBEL.out
  refine ⟨w1.heap.size, .slice gA (Given.ints (by_.take q)).length gC, rfl, ⟨hb.size, ?_, ?_, ?_, ?_, Nat.zero_le _, ?_⟩, hb.alloc hb.size _⟩
  · rw [hul]; exact blk_new w1 _
  · have h := HOWN.out
    rw [HTL.out]
    exact h.alloc _
  · rw [hul, HTL.out]; exact HQ.out.2.1
  · rw [HTL.out]; have := HQ.out.2.2; omega
  · rw [hul]; exact unpack_take by_ n q HQ.out.2.1

theorem newR_bad (A : Option Addr) (c m n : Nat) (w : World) (hn : 8 * m < n) (hsm : m < 1000000000) :
    Calls Try.prog 94 #[.slice A m c, .int .i64 (n : Nat)] w fun e w' => e = .returned (.tuple #[.pointer none, .int .i64 1]) ∧ Below w.heap.size w w' := by
  have hd : decide ((n : Int) < 0) = false := by simp
  have hm8 : RowKit.wrap64 (8 * (m : Int)) = 8 * (m : Int) := by unfold RowKit.wrap64; omega
  have hd2 : decide (8 * (m : Int) < (n : Int)) = true := by simp; omega
  go_enter Try.func94, Try.ntmps94
  go_wp2
  go_ret2
  exact ⟨rfl, Below.refl _ _⟩
end Go.Proofs.Ytmeojlamadcedaa

namespace Go.Proofs.Ytmeojlamadcedaa
set_option linter.unusedSimpArgs false
open Go.RowKit Go.Sort Go.Proofs.YtmeojlamadcedaaW.PrintWords Go.Proofs.YtmeojlamadcedaaW.PrintLast Go.Proofs.YtmeojlamadcedaaW.PrintMore
attribute [local go_sem] min2_int min_two

theorem wsmall {x : Int} (h0 : -1000000000000 ≤ x) (h1 : x ≤ 1000000000000) : RowKit.wrap64 x = x := by unfold RowKit.wrap64; omega
theorem wsmall' {x y : Int} (h : x = y) (h0 : -1000000000000 ≤ y) (h1 : y ≤ 1000000000000) : RowKit.wrap64 x = y := by rw [h]; exact wsmall h0 h1
theorem delta_read {l : List Int} (h : Po.Valid l) (i : Nat) (hi : i < l.length) :
    Po.deltaF (Po.bits l l.length) (Po.bits l i).length = (Po.gap l i, (Po.bits l (i + 1)).length, 0) := by
  obtain ⟨post, hp⟩ := Po.bits_split l i l.length hi
  have hg := Po.gap_le h i hi
  rw [hp, Po.deltaF_code _ _ _ hg.1 (by have := hg.2.1; omega), Po.bits, List.length_append]
theorem part_snoc (l : List Int) (s m : Nat) (h : s + m < l.length) : (l.drop s).take (m + 1) = (l.drop s).take m ++ [l.getD (s + m) 0] := by
  rw [List.take_add_one, List.getElem?_drop, List.getElem?_eq_getElem h, List.getD_eq_getElem?_getD, List.getElem?_eq_getElem h]; rfl

/-- The positions from entry k of the skip table to the next. -/
def part (l : List Int) (k : Nat) : List Int := (l.drop (16 * k)).take 16

theorem len_calls (a n : Nat) (w : World) (h : w.cell? ⟨a, 0, none⟩ = some (.int .i64 n)) :
    Calls Try.prog 63 #[.pointer (some ⟨a, 0, none⟩)] w fun e w' => e = .returned (.int .i64 n) ∧ w' = w := by
  go_enter Try.func63, Try.ntmps63
  go_wp2
  go_ret
  exact ⟨rfl, rfl⟩

/-- part, the positions up to index i read. -/
structure Pt (w0 : World) (l : List Int) (k ra : Nat) (rv : Value) (by_ : List UInt8) (i : Nat) (wr : World) (ov : Value) : Prop where
  bel : Below w0.heap.size w0 wr
  rd : Rd w0.heap.size wr ra rv by_ (Po.bits l l.length) (Po.bits l i).length
  own : wr.ownsRow w0.heap.size 3 1 ov (i - 16 * k) (nums .i64 ((l.drop (16 * k)).take (i - 16 * k)))
theorem Rd.lower {base base' : Nat} {w : World} {a : Nat} {v : Value} {by_ : List UInt8} {bl : List Bool} {pos : Nat} (h : Rd base w a v by_ bl pos) (hb : base' ≤ base) : Rd base' w a v by_ bl pos :=
  ⟨Nat.le_trans hb h.low, h.blk, own_less h.row hb, h.size, h.small, h.at_, h.bits⟩

set_option maxHeartbeats 4000000 in
set_option maxRecDepth 100000 in
theorem part_calls (base la : Nat) (gv sv : Value) (l : List Int) (k : Nat) (w : World) (hL : IsList base w la gv sv l) (hk : k < Po.cnt l.length) :
    Calls Try.prog 80 #[.pointer (some ⟨la, 0, none⟩), .int .i64 (k : Nat)] w fun e w' => ∃ v, e = .returned v ∧ w'.ownsRow w.heap.size 3 1 v (part l k).length (nums .i64 (part l k)) ∧ Below w.heap.size w w' := by
  obtain ⟨gA, gC, rfl⟩ := own_slice hL.gaps
  obtain ⟨sg, sc, rfl, hsc⟩ : ∃ sg sc, sv = .slice (some ⟨sg, 0, none⟩) (Po.cnt l.length) sc ∧ Po.cnt l.length ≤ sc := by
    rcases hL.skips.2 with ⟨_, h0⟩ | ⟨g, cap, cur, hv, _, _, hc, _⟩
    · omega
    · exact ⟨g, cap, hv, hc⟩
  have hlen := hL.len
  have hV := Lib.hid hL.valid
  have hbl := Po.bits_len_le hL.valid l.length (Nat.le_refl _)
  have hpl := Po.pack_len (Po.bits l l.length)
  have hcn : Po.cnt l.length = (l.length + 15) / 16 := rfl
  have hkn : 16 * k < l.length := by omega
  have HBLK := Lib.hid hL.blk
  have HN : Hid (Calls Try.prog 94 #[.slice gA (Po.pack (Po.bits l l.length)).length gC, .int .i64 ((Po.bits l l.length).length : Nat)] w.drew fun e w' => ∃ a v, e = .returned (.tuple #[.pointer (some ⟨a, 0, none⟩), .int .i64 0]) ∧ Rd w.heap.size w' a v ((Po.pack (Po.bits l l.length)).take (((Po.bits l l.length).length + 7) / 8)) (Po.bits l l.length) 0 ∧ Below w.heap.size w.drew w') := Lib.hid (by
    have hr := own_reads8 hL.gaps
    have hc : (Po.pack (Po.bits l l.length)).length ≤ gC := by
      rcases hL.gaps.2 with ⟨h1, h0⟩ | ⟨g, cap, cur, hv, _, _, hc, _⟩
      · omega
      · simp only [Value.slice.injEq] at hv
        omega
    have h := newR_calls gA gC (Po.bits l l.length).length (Po.pack (Po.bits l l.length)) w.drew hr hc (by omega) (by omega)
    rw [Po.unpack_pack] at h
    exact h)
  have HSK : Hid (w.cell? ⟨sg, 2 * k, none⟩ = some (.int .i64 (l.getD (16 * k) 0)) ∧ w.cell? ⟨sg, 2 * k + 1, none⟩ = some (.int .i64 ((Po.bits l (16 * k)).length : Nat))) := Lib.hid (by
    have h := skv_at l k (Po.cnt l.length) hk
    exact ⟨(hL.skips.cellAt _ (by omega)).trans h.1, (hL.skips.cellAt _ (by omega)).trans h.2⟩)
  obtain ⟨p0, hp0⟩ : ∃ p, l.getD (16 * k) 0 = p := ⟨_, rfl⟩
  have HP0 := Lib.hid hp0
  rw [hp0] at HSK
  clear hp0
  have hsl : sg < w.heap.size := by
    have := hL.skips.lt sg rfl; exact this.2
  have hal : la < w.heap.size := blk_lt hL.blk
  clear hL hpl hcn
  generalize hgn : (Po.pack (Po.bits l l.length)).length = gn at *
  generalize hbn : (Po.bits l l.length).length = bn at *
  have c2 : w.drew.cell? ⟨la, 2, none⟩ = some (.slice gA gn gC) := (blk_cell (w := w.drew) HBLK.out 2).trans rfl
  have c1 : w.drew.cell? ⟨la, 1, none⟩ = some (.int .i64 (bn : Nat)) := (blk_cell (w := w.drew) HBLK.out 1).trans rfl
  have HBN := Lib.hid hbn
  clear hgn hbn
  go_enter Try.func80, Try.ntmps80
  go_wp2
  refine start_ (n := 14) (S := fun w' => w'.cell? ⟨la, 2, none⟩ = some (.slice gA gn gC) ∧ w'.cell? ⟨la, 1, none⟩ = some (.int .i64 (bn : Nat))) (ds := []) #[false, false, false, false, false, false, false, false, false, false, false, false, false, false] (by kernel_rfl) rfl rfl ⟨c2, c1⟩ (fun hHeld => ?_)
  refine pure_ (i := 0) (N := some 12) (v := ?_) (a' := ?_) #[true, false, false, false, false, false, false, false, false, false, false, false, false, false] rfl rfl (by kernel_rfl) (fun _ _ _ h => h) (Or.inl ⟨by rfl, ?_⟩) ?_ ?_
  rotate_left
  · intro w'
    go_simp
    with_reducible rfl
  rotate_left
  · simp only [Act.put, List.setIfInBounds_toArray, List.set_cons_zero, List.set_cons_succ, i64_w, i32_w]
    rfl
  refine pure_ (i := 1) (N := some 13) (v := ?_) (a' := ?_) #[true, true, false, false, false, false, false, false, false, false, false, false, false, false] rfl rfl (by kernel_rfl) (fun _ _ _ h => h) (Or.inl ⟨by rfl, ?_⟩) ?_ ?_
  rotate_left
  · intro w'
    go_simp
    with_reducible rfl
  rotate_left
  · simp only [Act.put, List.setIfInBounds_toArray, List.set_cons_zero, List.set_cons_succ, i64_w, i32_w]
    rfl
  refine pure_ (i := 2) (N := some 14) (v := ?_) (a' := ?_) #[true, true, true, false, false, false, false, false, false, false, false, false, false, false] rfl rfl (by kernel_rfl) (fun _ _ _ h => h) (Or.inl ⟨by rfl, ?_⟩) ?_ ?_
  rotate_left
  · intro w'
    go_simp
    with_reducible rfl
  rotate_left
  · simp only [Act.put, List.setIfInBounds_toArray, List.set_cons_zero, List.set_cons_succ, i64_w, i32_w]
    rfl
  refine take_ (i := 3) (N := some 15) (v := ?_) (a' := ?_) #[true, true, true, true, false, false, false, false, false, false, false, false, false, false] rfl rfl (by kernel_rfl) (fun _ _ _ h => h) (Or.inl ⟨by rfl, ?_⟩) hHeld ?_ ?_
  rotate_left
  · rintro w' ⟨s0, s1⟩
    go_simp
    with_reducible rfl
  rotate_left
  · simp only [Act.put, List.setIfInBounds_toArray, List.set_cons_zero, List.set_cons_succ, i64_w, i32_w]
    rfl
  refine pure_ (i := 4) (N := some 16) (v := ?_) (a' := ?_) #[true, true, true, true, true, false, false, false, false, false, false, false, false, false] rfl rfl (by kernel_rfl) (fun _ _ _ h => h) (Or.inl ⟨by rfl, ?_⟩) ?_ ?_
  rotate_left
  · intro w'
    go_simp
    with_reducible rfl
  rotate_left
  · simp only [Act.put, List.setIfInBounds_toArray, List.set_cons_zero, List.set_cons_succ, i64_w, i32_w]
    rfl
  refine pure_ (i := 5) (N := some 17) (v := ?_) (a' := ?_) #[true, true, true, true, true, true, false, false, false, false, false, false, false, false] rfl rfl (by kernel_rfl) (fun _ _ _ h => h) (Or.inl ⟨by rfl, ?_⟩) ?_ ?_
  rotate_left
  · intro w'
    go_simp
    with_reducible rfl
  rotate_left
  · simp only [Act.put, List.setIfInBounds_toArray, List.set_cons_zero, List.set_cons_succ, i64_w, i32_w]
    rfl
  refine pure_ (i := 6) (N := some 18) (v := ?_) (a' := ?_) #[true, true, true, true, true, true, true, false, false, false, false, false, false, false] rfl rfl (by kernel_rfl) (fun _ _ _ h => h) (Or.inl ⟨by rfl, ?_⟩) ?_ ?_
  rotate_left
  · intro w'
    go_simp
    with_reducible rfl
  rotate_left
  · simp only [Act.put, List.setIfInBounds_toArray, List.set_cons_zero, List.set_cons_succ, i64_w, i32_w]
    rfl
  refine take_ (i := 7) (N := some 19) (v := ?_) (a' := ?_) #[true, true, true, true, true, true, true, true, false, false, false, false, false, false] rfl rfl (by kernel_rfl) (fun _ _ _ h => h) (Or.inl ⟨by rfl, ?_⟩) hHeld ?_ ?_
  rotate_left
  · rintro w' ⟨s0, s1⟩
    go_simp
    with_reducible rfl
  rotate_left
  · simp only [Act.put, List.setIfInBounds_toArray, List.set_cons_zero, List.set_cons_succ, i64_w, i32_w]
    rfl
  refine one_ (i := 8) (N := some 20) #[true, true, true, true, true, true, true, true, true, false, false, false, false, false] rfl rfl (by kernel_rfl) (by decide) (fun K hK => ?_)
  refine goes_ Try.func94 (by kernel_rfl) rfl #[.slice gA gn gC, .int .i64 (bn : Nat)] (by rfl) rfl rfl (by (try simp only [List.map_toArray, List.map_cons, List.map_nil]); first | done | rfl) ?_
  with_reducible refine (HN.out).mono ?_
  rintro e w1 ⟨ra, rv, rfl, hrd, hb1⟩
  have HRD := Lib.hid hrd
  have HB1 := Lib.hid hb1
  clear hrd hb1
  refine ⟨_, rfl, ?_⟩
  refine hK.out _ _ ⟨(blk_cell (blk_below (w := w.drew) HBLK.out HB1.out) 2).trans rfl, (blk_cell (blk_below (w := w.drew) HBLK.out HB1.out) 1).trans rfl⟩ (fun hHeld => ?_)
  clear hK K
  refine norm_ (a' := ?_) ?_ ?_
  rotate_left
  · show Act.put _ (some 20) _ = _
    simp only [Act.put, List.setIfInBounds_toArray, List.set_cons_zero, List.set_cons_succ, i64_w, i32_w]
    rfl
  refine pure_ (i := 9) (N := some 11) (v := ?_) (a' := ?_) #[true, true, true, true, true, true, true, true, true, true, false, false, false, false] rfl rfl (by kernel_rfl) (fun _ _ _ h => h) (Or.inl ⟨by rfl, ?_⟩) ?_ ?_
  rotate_left
  · intro w'
    go_simp
    with_reducible rfl
  rotate_left
  · simp only [Act.put, List.setIfInBounds_toArray, List.set_cons_zero, List.set_cons_succ, i64_w, i32_w]
    rfl
  refine pure_ (i := 10) (N := some 21) (v := ?_) (a' := ?_) #[true, true, true, true, true, true, true, true, true, true, true, false, false, false] rfl rfl (by kernel_rfl) (fun _ _ _ h => h) (Or.inl ⟨by rfl, ?_⟩) ?_ ?_
  rotate_left
  · intro w'
    go_simp
    with_reducible rfl
  rotate_left
  · simp only [Act.put, List.setIfInBounds_toArray, List.set_cons_zero, List.set_cons_succ, i64_w, i32_w]
    rfl
  refine pure_ (i := 11) (N := some 22) (v := ?_) (a' := ?_) #[true, true, true, true, true, true, true, true, true, true, true, true, false, false] rfl rfl (by kernel_rfl) (fun _ _ _ h => h) (Or.inl ⟨by rfl, ?_⟩) ?_ ?_
  rotate_left
  · intro w'
    go_simp
    with_reducible rfl
  rotate_left
  · simp only [Act.put, List.setIfInBounds_toArray, List.set_cons_zero, List.set_cons_succ, i64_w, i32_w]
    rfl
  refine pure_ (i := 12) (N := some 5) (v := ?_) (a' := ?_) #[true, true, true, true, true, true, true, true, true, true, true, true, true, false] rfl rfl (by kernel_rfl) (fun _ _ _ h => h) (Or.inl ⟨by rfl, ?_⟩) ?_ ?_
  rotate_left
  · intro w'
    go_simp
    with_reducible rfl
  rotate_left
  · simp only [Act.put, List.setIfInBounds_toArray, List.set_cons_zero, List.set_cons_succ, i64_w, i32_w]
    rfl
  refine pure_ (i := 13) (N := some 6) (v := ?_) (a' := ?_) #[true, true, true, true, true, true, true, true, true, true, true, true, true, true] rfl rfl (by kernel_rfl) (fun _ _ _ h => h) (Or.inl ⟨by rfl, ?_⟩) ?_ ?_
  rotate_left
  · intro w'
    go_simp
    with_reducible rfl
  rotate_left
  · simp only [Act.put, List.setIfInBounds_toArray, List.set_cons_zero, List.set_cons_succ, i64_w, i32_w]
    rfl
  refine done_ (by kernel_rfl) ?_
  have hbw1 : Below w.heap.size w w1 := (Below.refl w.heap.size w).drew.trans HB1.out
  have HBW1 := Lib.hid hbw1
  have hra := HRD.out.low
  have HRA := Lib.hid hra
  have hmono := Po.bits_len_mono l (16 * k) l.length (by omega)
  have hbn16 : (Po.bits l (16 * k)).length < 1000000 := by have := HBN.out; omega
  have H98 := Lib.hid (seekR_calls w.heap.size ra 0 rv _ (Po.bits l l.length) (Po.bits l (16 * k)).length w1 HRD.out hmono)
  have HC : Hid (∀ W, Below w.heap.size w W → W.cell? ⟨la, 3, none⟩ = some (.slice (some ⟨sg, 0, none⟩) (Po.cnt l.length) sc) ∧ W.cell? ⟨la, 0, none⟩ = some (.int .i64 (l.length : Nat)) ∧ W.cell? ⟨sg, k * 2, none⟩ = some (.int .i64 p0) ∧ W.cell? ⟨sg, k * 2 + 1, none⟩ = some (.int .i64 ((Po.bits l (16 * k)).length : Nat))) := Lib.hid (fun W hW => by
    refine ⟨(hW.cell (p := ⟨la, 3, none⟩) hal).trans ((blk_cell HBLK.out 3).trans rfl), (hW.cell (p := ⟨la, 0, none⟩) hal).trans ((blk_cell HBLK.out 0).trans rfl), ?_, ?_⟩
    · rw [Nat.mul_comm]; exact (hW.cell (p := ⟨sg, 2 * k, none⟩) hsl).trans HSK.out.1
    · rw [Nat.mul_comm]; exact (hW.cell (p := ⟨sg, 2 * k + 1, none⟩) hsl).trans HSK.out.2)
  obtain ⟨e3, e0, s0, s1⟩ := HC.out w1 hbw1
  have hk0 : (0 : Int) ≤ (k : Int) := by omega
  have hkc : (k : Int) < (Po.cnt l.length : Nat) := by omega
  have HD : Hid (∀ W i, i < l.length → Rd w.heap.size W ra rv ((Po.pack (Po.bits l l.length)).take ((bn + 7) / 8)) (Po.bits l l.length) (Po.bits l i).length → Calls Try.prog 95 #[.pointer (some ⟨ra, 0, none⟩)] W fun e w' => e = .returned (.tuple #[.int .u64 (Po.gap l i : Nat), .int .i64 0]) ∧ Rd w.heap.size w' ra rv ((Po.pack (Po.bits l l.length)).take ((bn + 7) / 8)) (Po.bits l l.length) (Po.bits l (i + 1)).length ∧ Fr (fun k => k = ra) W w') := Lib.hid (fun W i hi hr => by
    refine (deltaR_calls w.heap.size ra _ rv _ _ W hr).mono fun e w' hq => ?_
    obtain ⟨h1, h2, h3⟩ := hq
    rw [delta_read hV.out i hi] at h1 h2
    exact ⟨h1, h2, h3⟩)
  have HFB : Hid (∀ W W2, Below w.heap.size w W → Fr (fun k => k = ra) W W2 → Below w.heap.size w W2) := Lib.hid (fun W W2 h1 h2 => Fr.after h1 h2 h1.size (fun i hi he => by have := HRA.out; omega))
  clear hbw1 hra hmono c1 c2
  generalize hby : (Po.pack (Po.bits l l.length)).take ((bn + 7) / 8) = by_ at *
  clear hby
  go_wp2_with (first
    | (go_at_call 98; (with_reducible refine H98.out.mono ?_); rintro e w2 ⟨rfl, hrd2, hf2⟩; have HRD2 := Lib.hid hrd2; have HB2 := Lib.hid (HFB.out _ _ HBW1.out hf2); clear hrd2 hf2)
    | (go_at_call 95; (with_reducible refine (HD.out _ _ hkn HRD2.out).mono ?_); rintro e w3 ⟨rfl, hrd3, hf3⟩; have HRD3 := Lib.hid hrd3; have HB3 := Lib.hid (HFB.out _ _ HB2.out hf3); clear hrd3 hf3; obtain ⟨e3, e0, s0, s1⟩ := HC.out _ HB3.out))
  have hst : Hid (Pt w l k ra rv by_ (16 * k + 1) (w3.alloc (.cells #[.int .i64 p0] 3)) (.slice (some ⟨w3.heap.size, 0, none⟩) 1 1)) := Lib.hid (by
    have h1 : 16 * k + 1 - 16 * k = 1 := by omega
    refine ⟨HB3.out.alloc HB3.out.size _, HRD3.out.later ((Below.refl _ _).alloc (Nat.le_refl _) _), ?_⟩
    rw [h1]
    have h2 : (l.drop (16 * k)).take 1 = [p0] := by
      have h3 := part_snoc l (16 * k) 0 hkn
      rw [List.take_zero, List.nil_append] at h3
      rw [h3]; exact congrArg (fun q => [q]) HP0.out
    rw [h2]
    exact World.ownsRow_lit w3 #[.int .i64 p0] 1 HB3.out.size (by simp [maxLen]) rfl)
  go_loopg [7, 8] 16 (fun kx s7 s8 wr => ∃ (i : Nat) (W : World), W = wr ∧ s8 = .int .i64 i ∧ 16 * k + 1 ≤ i ∧ i ≤ 16 * k + 16 ∧ i ≤ l.length ∧ 16 * k + 16 - i ≤ kx ∧ Pt w l k ra rv by_ i wr s7)
  case atStart => exact ⟨16 * k + 1, _, rfl, congrArg (Value.int .i64) (by omega), by omega, by omega, by omega, by omega, hst.out⟩
  case round =>
    obtain ⟨i, W, rfl, rfl, hi1, hi2, hi3, hkx, hpt⟩ := hrel
    have HPT := Lib.hid hpt
    clear hst
    obtain ⟨j, hj⟩ : ∃ j, i = 16 * k + j + 1 := ⟨i - 16 * k - 1, by omega⟩
    obtain ⟨m, hm⟩ : ∃ m, m = j + 1 := ⟨_, rfl⟩
    have hij : i - 16 * k = m := by omega
    have hown := hpt.own
    rw [hij] at hown
    obtain ⟨og, oc, rfl, hoc⟩ := own_some hown (by omega)
    have HOWN := Lib.hid hown
    clear hpt hown
    obtain ⟨e3', e0', s0', s1'⟩ := HC.out _ HPT.out.bel
    have HWK1 : Hid (RowKit.wrap64 ((k : Int) + 1) = (k : Int) + 1) := Lib.hid (wsmall' (by omega) (by omega) (by omega))
    have HWK2 : Hid (RowKit.wrap64 (((k : Int) + 1) * 16) = ((k : Int) + 1) * 16) := Lib.hid (wsmall' (by omega) (by omega) (by omega))
    obtain ⟨mn, hmn⟩ : ∃ d, (if ((k : Int) + 1) * 16 < (l.length : Int) then ((k : Int) + 1) * 16 else (l.length : Int)) = d := ⟨_, rfl⟩
    by_cases hgo : i < l.length ∧ i < 16 * k + 16
    · have hdm : decide ((i : Int) < mn) = true := by
        rw [← hmn, decide_eq_true_iff]; split <;> omega
      obtain ⟨gp, hgp⟩ : ∃ g, Po.gap l i = g := ⟨_, rfl⟩
      obtain ⟨pl, hpl⟩ : ∃ p, l.getD (16 * k + j) 0 = p := ⟨_, rfl⟩
      obtain ⟨p, hp⟩ : ∃ p, l.getD i 0 = p := ⟨_, rfl⟩
      have hgl := Po.gap_le hV.out i hgo.1
      have hrange := hV.out i hgo.1
      have hbef : Po.bef l i = pl := by rw [hj]; exact hpl
      rw [hgp, hbef, hp] at hgl
      have hr1 := hrange.1
      have hr2 := hrange.2.1
      rw [hp] at hr1 hr2
      have H_hgw : Hid (RowKit.wrap64 (gp : Int) = (gp : Int)) := Lib.hid (wsmall' (by omega) (by omega) (by omega))
      have H_hsum : Hid (RowKit.wrap64 p = p) := Lib.hid (wsmall' rfl (by omega) (by omega))
      have hsum2 : pl + (gp : Int) = p := hgl.2.2
      have H_hwj : Hid (RowKit.wrap64 ((m : Int) - 1) = (j : Int)) := Lib.hid (wsmall' (by omega) (by omega) (by omega))
      have H_hwj2 : Hid (RowKit.wrap64 (j : Int) = (j : Int)) := Lib.hid (wsmall' (by omega) (by omega) (by omega))
      have hj0 : (0 : Int) ≤ (j : Int) := by omega
      have H_hwi : Hid (RowKit.wrap64 ((i : Int) + 1) = (i : Int) + 1) := Lib.hid (wsmall' (by omega) (by omega) (by omega))
      have H95 : Hid (Calls Try.prog 95 #[.pointer (some ⟨ra, 0, none⟩)] W fun e w' => e = .returned (.tuple #[.int .u64 (gp : Nat), .int .i64 0]) ∧ Rd w.heap.size w' ra rv by_ (Po.bits l l.length) (Po.bits l (i + 1)).length ∧ Fr (fun k => k = ra) W w') := Lib.hid (by rw [← hgp]; exact HD.out _ _ hgo.1 HPT.out.rd)
      have hne : Hid (∀ b, (Value.slice (some ⟨og, 0, none⟩) m oc).ownBlock = some b → ¬ b = ra) := Lib.hid (fun b hb e => own_apart HOWN.out HPT.out.rd.blk (by decide) (e ▸ hb))
      have HNX : Hid (∀ (W2 : World) (ov : Value), W2.ownsRow w.heap.size 3 1 ov (m + 1) (nums .i64 ((l.drop (16 * k)).take m) ++ [.int .i64 p]) → W2.ownsRow w.heap.size 3 1 ov (i + 1 - 16 * k) (nums .i64 ((l.drop (16 * k)).take (i + 1 - 16 * k)))) := Lib.hid (fun W2 ov h => by
        rw [show i + 1 - 16 * k = m + 1 by omega, part_snoc l (16 * k) m (by omega), nums_append, show 16 * k + m = i by omega, hp]
        exact h)
      have HCELL : Hid ((nums .i64 ((l.drop (16 * k)).take m))[j]? = some (.int .i64 pl)) := Lib.hid (by
        unfold nums
        rw [List.getElem?_map, List.getElem?_take_of_lt (by omega), List.getElem?_drop, List.getElem?_eq_getElem (by omega), ← hpl, List.getD_eq_getElem?_getD, List.getElem?_eq_getElem (by omega)]; rfl)
      have hnl : Hid ((nums .i64 ((l.drop (16 * k)).take m)).length = m) := Lib.hid (by
        unfold nums; rw [List.length_map, List.length_take, List.length_drop]; omega)
      have HJ := Lib.hid hj
      have hjm : (j : Int) < (m : Int) := by omega
      have hmj : (m : Int) - 1 = (j : Int) := by omega
      have HJM := Lib.hid hm
      have HJ16 : Hid (m < 17) := Lib.hid (by omega)
      clear hgp hpl hp hgl hrange hbef hr1 hr2 hij hj hm
      generalize nums .i64 ((l.drop (16 * k)).take m) = ns at *
      have HLT : Hid (j < m * 1) := Lib.hid (by omega)
      have HMX : Hid ((ns.length + 1) * 8 ≤ 140737488355328) := Lib.hid (by have := HJ16.out; rw [hnl.out]; omega)
      clear hlen hkn hsc hk HSK HBLK HN HRD H98 HD HRD2 HB2 HRD3 HB3 HB1 HBW1 hbn16 hbl
      have hwk1 := HWK1.out
      have hwk2 := HWK2.out
      have hgw := H_hgw.out
      have hsum := H_hsum.out
      have hwj := H_hwj.out
      have hwj2 := H_hwj2.out
      have hwi := H_hwi.out
      go_wp2_with (first
        | (go_at_call 95; (with_reducible refine H95.out.mono ?_); rintro e w4 ⟨rfl, hrd4, hf4⟩
            ; have ho4 := hf4.own HOWN.out hne.out
            ; have co := (ho4.cellAt j HLT.out).trans HCELL.out
            ; have ho4' : w4.ownsRow w.heap.size 3 1 (.slice (some ⟨og, 0, none⟩) m oc) ns.length ns := (by rw [hnl.out]; exact ho4)
            ; have HO4 := Lib.hid ho4'; have HRD4 := Lib.hid hrd4; have HB4 := Lib.hid (HFB.out _ _ HPT.out.bel hf4); clear hrd4 hf4 ho4 ho4'; obtain ⟨e3, e0, s0, s1⟩ := HC.out _ HB4.out)
        | ((with_reducible refine gate_dst (N := 75) rfl ?_); refine print_append (w0 := w) (W := w4) w.heap.size rfl (.tmp 64) (.tmp 74) 38 3 (.int .i64 0) 8 rfl (show Try.prog.underlying 38 = some (.slice 3) by kernel_rfl) (by kernel_rfl) rfl (by decide) (.slice (some ⟨og, 0, none⟩) m oc) ns (.int .i64 p) rfl rfl rfl HO4.out HB4.out HB4.out.size HMX.out ?_
            ; intro v5 w5 hown5 hb5 hgr5 _
            ; have HO5 := Lib.hid hown5; have HB5 := Lib.hid hb5; have HG5 := Lib.hid hgr5; clear hown5 hb5 hgr5))
      go_roundg (16 * k + 16 - (i + 1))
      case measure => clear hwk1 hwk2 hgw hsum hwj hwj2 hwi; omega
      case rel =>
        clear hwk1 hwk2 hgw hsum hwj hwj2 hwi
        have h5 := HO5.out
        rw [List.length_append, hnl.out] at h5
        refine ⟨i + 1, _, rfl, congrArg (Value.int .i64) (H_hwi.out.trans (Int.natCast_succ i).symm), by omega, by omega, by omega, by omega, ⟨HB5.out, ?_, HNX.out _ _ h5⟩⟩
        have hne4 := own_apart HO4.out HRD4.out.blk (by decide)
        have hrow4 := own_own HRD4.out.row HO4.out (by decide)
        have hf : Fr (fun b => (Value.slice (some ⟨og, 0, none⟩) m oc).ownBlock = some b) w4 w5 := (Fr.refl _ w4).grown HG5.out (fun b _ hb => hb)
        exact ⟨HRD4.out.low, hf.blk HRD4.out.blk hne4, hf.own HRD4.out.row hrow4, HRD4.out.size, HRD4.out.small, HRD4.out.at_, HRD4.out.bits⟩
    · have hdm : decide ((i : Int) < mn) = false := by
        rw [← hmn, decide_eq_false_iff_not]; split <;> omega
      have HE : Hid (part l k = (l.drop (16 * k)).take m) := Lib.hid (by
        clear hdm hmn
        unfold part
        rcases Nat.lt_or_ge i l.length with h1 | h1
        · rw [show m = 16 by omega]
        · rw [List.take_of_length_le (by rw [List.length_drop]; omega), List.take_of_length_le (by rw [List.length_drop]; omega)])
      have HLN : Hid (((l.drop (16 * k)).take m).length = m) := Lib.hid (by clear hdm hmn; rw [List.length_take, List.length_drop]; omega)
      clear hij hj hm hgo hi1 hi2 hi3 hkx hkn hbl hbn16 hlen hsc HSK HN H98 HD HFB HC HBN HBLK hV
      have hwk1 := HWK1.out
      have hwk2 := HWK2.out
      go_wp2
      go_ret
      exact ⟨_, rfl, by rw [HE.out, HLN.out]; exact HOWN.out, HPT.out.bel⟩
end Go.Proofs.Ytmeojlamadcedaa
