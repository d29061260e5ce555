/- postings.Decode: what it comes to.
   Conditions: those of the theorem. -/
import Derived.Test.YtmeojlamadcedaaPoDc
namespace Go.Proofs.Ytmeojlamadcedaa
set_option linter.unusedSimpArgs false
set_option linter.unusedVariables false
open Go.RowKit Go.Sort Go.Proofs.YtmeojlamadcedaaW.PrintWords Go.Proofs.YtmeojlamadcedaaW.PrintLast Go.Proofs.YtmeojlamadcedaaW.PrintMore

/-- What Decode leaves behind. -/
def DecPost (w : World) (b : List UInt8) (e : Ending) (w' : World) : Prop :=
  (Po.dec b = none ∧ e = .returned (.tuple #[.pointer none, .int .i64 9]) ∨
    ∃ l a gv sv, Po.dec b = some l ∧ e = .returned (.tuple #[.pointer (some ⟨a, 0, none⟩), .int .i64 0]) ∧ IsList w.heap.size w' a gv sv l) ∧ Below w.heap.size w w'
theorem DecPost.bad {w : World} {b : List UInt8} {e : Ending} {w' : World} (h : Po.dec b = none) (hq : e = .returned (.tuple #[.pointer none, .int .i64 9]) ∧ Below w.heap.size w w') : DecPost w b e w' := ⟨.inl ⟨h, hq.1⟩, hq.2⟩

/-- How the header comes about. -/
inductive Way (b : List UInt8) : Prop
  | shut (h : ¬ Po.Opens b)
  | one (ho : Po.Opens b) (p : List UInt8) (hp : b.take (b.length - 4) = p) (x1 k1 : Nat) (e1 : Int) (h1 : Po.tkU p 0 0 = (x1, k1, e1)) (hb : e1 ≠ 0 ∨ 4096 < x1)
  | two (ho : Po.Opens b) (p q : List UInt8) (hp : b.take (b.length - 4) = p) (x1 k1 x2 k2 : Nat) (e2 : Int) (h1 : Po.tkU p 0 0 = (x1, k1, 0)) (hx1 : x1 ≤ 4096) (hq : p.drop k1 = q) (h2 : Po.tkU q 0 0 = (x2, k2, e2)) (hb : e2 ≠ 0 ∨ 8 * q.length < x2)
  | all (ho : Po.Opens b) (p q r : List UInt8) (hp : b.take (b.length - 4) = p) (x1 k1 x2 k2 : Nat) (h1 : Po.tkU p 0 0 = (x1, k1, 0)) (hx1 : x1 ≤ 4096) (hq : p.drop k1 = q) (h2 : Po.tkU q 0 0 = (x2, k2, 0)) (hx2 : x2 ≤ 8 * q.length) (hr : q.drop k2 = r)
theorem way (b : List UInt8) : Way b := by
  by_cases ho : Po.Opens b
  · obtain ⟨p, hp⟩ : ∃ p, b.take (b.length - 4) = p := ⟨_, rfl⟩
    obtain ⟨T1, h1⟩ : ∃ T, Po.tkU p 0 0 = T := ⟨_, rfl⟩
    obtain ⟨x1, k1, e1⟩ := T1
    by_cases hb : e1 ≠ 0 ∨ 4096 < x1
    · exact .one ho p hp x1 k1 e1 h1 hb
    · obtain ⟨rfl, hx1⟩ : e1 = 0 ∧ x1 ≤ 4096 := by omega
      obtain ⟨q, hq⟩ : ∃ q, p.drop k1 = q := ⟨_, rfl⟩
      obtain ⟨T2, h2⟩ : ∃ T, Po.tkU q 0 0 = T := ⟨_, rfl⟩
      obtain ⟨x2, k2, e2⟩ := T2
      by_cases hb2 : e2 ≠ 0 ∨ 8 * q.length < x2
      · exact .two ho p q hp x1 k1 x2 k2 e2 h1 hx1 hq h2 hb2
      · obtain ⟨rfl, hx2⟩ : e2 = 0 ∧ x2 ≤ 8 * q.length := by omega
        exact .all ho p q _ hp x1 k1 x2 k2 h1 hx1 hq h2 hx2 rfl
  · exact .shut ho
theorem tk_le {b : List UInt8} {x k : Nat} (h : Po.tkU b 0 0 = (x, k, 0)) : k ≤ b.length := by
  have h1 := Po.tkU_len b 0 0 (by rw [h])
  rw [h] at h1
  dsimp only at h1
  omega
theorem dec_one {b p : List UInt8} {x1 k1 : Nat} {e1 : Int} (ho : Po.Opens b) (hp : b.take (b.length - 4) = p) (h1 : Po.tkU p 0 0 = (x1, k1, e1)) (hb : e1 ≠ 0 ∨ 4096 < x1) : Po.dec b = none := by
  have hc : (Po.tkU p 0 0).2.2 ≠ 0 ∨ 4096 < (Po.tkU p 0 0).1 := by rw [h1]; exact hb
  rw [Po.dec_open ho, hp, Po.parse, Po.hdr, if_pos hc]
  rfl
theorem dec_two {b p q : List UInt8} {x1 k1 x2 k2 : Nat} {e2 : Int} (ho : Po.Opens b) (hp : b.take (b.length - 4) = p) (h1 : Po.tkU p 0 0 = (x1, k1, 0)) (hx1 : x1 ≤ 4096) (hq : p.drop k1 = q) (h2 : Po.tkU q 0 0 = (x2, k2, e2))
    (hb : e2 ≠ 0 ∨ 8 * (q.drop k2).length < x2) : Po.dec b = none := by
  have hc : ¬ ((Po.tkU p 0 0).2.2 ≠ 0 ∨ 4096 < (Po.tkU p 0 0).1) := by rw [h1]; show ¬ ((0 : Int) ≠ 0 ∨ 4096 < x1); omega
  have hc2 : (Po.tkU q 0 0).2.2 ≠ 0 ∨ 8 * (q.drop (Po.tkU q 0 0).2.1).length < (Po.tkU q 0 0).1 := by rw [h2]; exact hb
  have hk : (Po.tkU p 0 0).2.1 = k1 := by rw [h1]
  rw [Po.dec_open ho, hp, Po.parse, Po.hdr, if_neg hc, hk, hq, Po.hdr2, if_pos hc2]
  rfl
theorem dec_all {b p q r : List UInt8} {x1 k1 x2 k2 : Nat} (ho : Po.Opens b) (hp : b.take (b.length - 4) = p) (h1 : Po.tkU p 0 0 = (x1, k1, 0)) (hx1 : x1 ≤ 4096) (hq : p.drop k1 = q) (h2 : Po.tkU q 0 0 = (x2, k2, 0)) (hr : q.drop k2 = r)
    (hx2 : x2 ≤ 8 * r.length) : Po.dec b = (Po.gaps x1 x2 r).bind (Po.fin b) := by
  have hc : ¬ ((Po.tkU p 0 0).2.2 ≠ 0 ∨ 4096 < (Po.tkU p 0 0).1) := by rw [h1]; show ¬ ((0 : Int) ≠ 0 ∨ 4096 < x1); omega
  have hc2 : ¬ ((Po.tkU q 0 0).2.2 ≠ 0 ∨ 8 * (q.drop (Po.tkU q 0 0).2.1).length < (Po.tkU q 0 0).1) := by
    rw [h2]; show ¬ ((0 : Int) ≠ 0 ∨ 8 * (q.drop k2).length < x2); rw [hr]; omega
  have hk : (Po.tkU p 0 0).2.1 = k1 := by rw [h1]
  have hk2 : (Po.tkU q 0 0).2.1 = k2 := by rw [h2]
  have hv1 : (Po.tkU p 0 0).1 = x1 := by rw [h1]
  have hv2 : (Po.tkU q 0 0).1 = x2 := by rw [h2]
  rw [Po.dec_open ho, hp, Po.parse, Po.hdr, if_neg hc, hk, hq, Po.hdr2, if_neg hc2, hk2, hr, hv1, hv2]
  rfl

theorem decode_calls (A : Option Addr) (n c : Nat) (b : List UInt8) (w : World) (h : Bs w A n c b) (hn : n < 100000) :
    Calls Try.prog 38 #[.slice A n c] w fun e w' => DecPost w b e w' := by
  have HA : ∀ W, Below w.heap.size w W → Bs W A n c b := fun W hW => h.below hW
  have HUN : ∀ p, Po.Opens b → b.take (b.length - 4) = p → ∀ pn, pn = p.length → Hid (Calls Try.prog 31 #[.slice A n c] w fun e w' => ∃ A1 c1, e = .returned (.tuple #[.slice A1 pn c1, .int .i64 0]) ∧ Bs w' A1 pn c1 p ∧ Below w.heap.size w w') := fun p ho hp pn hpn => Lib.hid (by
    have hl : pn = n - 4 := by rw [hpn, ← hp, List.length_take, h.len]; omega
    have h1 := unB_open h (by omega) ho pn hl
    rwa [hp] at h1)
  have HUV : ∀ (p : List UInt8) (x k : Nat) (e : Int), p.length < 1000000000 → Po.tkU p 0 0 = (x, k, e) → Hid (∀ W A c, Bs W A p.length c p → Calls Try.prog 72 #[.slice A p.length c] W fun e' w' => e' = .returned (.tuple #[.int .u64 (x : Nat), .int .i64 (k : Nat), .int .i64 e]) ∧ Below W.heap.size W w') := fun p x k e hl ht => Lib.hid (fun W A c hB => uvB_calls hB hl x k e ht)
  have hbl := h.len
  have hpl : ∀ p : List UInt8, b.take (b.length - 4) = p → p.length < 100000 := fun p hp => by rw [← hp, List.length_take]; omega
  rcases way b with ho | ⟨ho, p, hp, x1, k1, e1, h1, hb⟩ | ⟨ho, p, q, hp, x1, k1, x2, k2, e2, h1, hx1, hq, h2, hb⟩ | ⟨ho, p, q, r, hp, x1, k1, x2, k2, h1, hx1, hq, h2, hx2, hr⟩
  · exact (dc_shut A n c w (Lib.hid (unB_shut h (by omega) ho))).mono fun e w' hq => DecPost.bad (Po.dec_shut ho) hq
  · have hD := dec_one ho hp h1 hb
    have hp5 := hpl p hp
    by_cases h0 : e1 = 0
    · subst h0
      exact (dc_uv1x A n c w p.length x1 k1 p (HUN p ho hp _ rfl) (HUV p x1 k1 0 (by omega) h1) (by omega)).mono fun e w' hq => DecPost.bad hD hq
    · exact (dc_uv1e A n c w p.length x1 k1 e1 p (HUN p ho hp _ rfl) (HUV p x1 k1 e1 (by omega) h1) h0).mono fun e w' hq => DecPost.bad hD hq
  · have hp5 := hpl p hp
    have hk1 := tk_le h1
    have hql : q.length = p.length - k1 := by rw [← hq, List.length_drop]
    have hK1 : Hid (k1 ≤ p.length ∧ q.length = p.length - k1 ∧ q = p.drop k1) := Lib.hid ⟨hk1, hql, hq.symm⟩
    have hD := dec_two ho hp h1 hx1 hq h2 (by rcases hb with hb | hb; exact .inl hb; right; rw [List.length_drop]; omega)
    by_cases h0 : e2 = 0
    · subst h0
      exact (dc_uv2x A n c w p.length x1 k1 q.length x2 k2 p q (HUN p ho hp _ rfl) (HUV p x1 k1 0 (by omega) h1) hK1 (HUV q x2 k2 0 (by omega) h2) hx1 (by omega) (by omega)).mono fun e w' hq => DecPost.bad hD hq
    · exact (dc_uv2e A n c w p.length x1 k1 q.length x2 k2 p q (HUN p ho hp _ rfl) (HUV p x1 k1 0 (by omega) h1) hK1 e2 (HUV q x2 k2 e2 (by omega) h2) hx1 h0).mono fun e w' hq => DecPost.bad hD hq
  · have hp5 := hpl p hp
    have hk1 := tk_le h1
    have hk2 := tk_le h2
    have hql : q.length = p.length - k1 := by rw [← hq, List.length_drop]
    have hrl : r.length = q.length - k2 := by rw [← hr, List.length_drop]
    have hK1 : Hid (k1 ≤ p.length ∧ q.length = p.length - k1 ∧ q = p.drop k1) := Lib.hid ⟨hk1, hql, hq.symm⟩
    have hK2 : Hid (k2 ≤ q.length ∧ r.length = q.length - k2 ∧ r = q.drop k2) := Lib.hid ⟨hk2, hrl, hr.symm⟩
    have H1 := HUV p x1 k1 0 (by omega) h1
    have H2 := HUV q x2 k2 0 (by omega) h2
    have HU := HUN p ho hp _ rfl
    have HPS : x2 ≤ 8 * r.length → ∀ W A c, Bs W A r.length c r → Calls Try.prog 73 #[.slice A r.length c, .int .i64 (x2 : Nat), .int .i64 (x1 : Nat)] W fun e w' => PosPost x1 x2 r W e w' := fun hx W A c hB => pos_calls A c x1 x2 r W hB.rds hB.cap hx hx1 (by omega)
    by_cases hb4 : 8 * r.length < x2 ∨ Po.gaps x1 x2 r = none
    · have hD : Po.dec b = none := by
        by_cases hx : 8 * r.length < x2
        · exact dec_two ho hp h1 hx1 hq h2 (.inr (by rw [hr]; exact hx))
        · rcases hb4 with h4 | h4
          · exact absurd h4 hx
          · rw [dec_all ho hp h1 hx1 hq h2 hr (by omega), h4]; rfl
      refine (dc_pos A n c w p.length x1 k1 q.length x2 k2 r.length p q r HU H1 hK1 H2 hK2 hx1 (by omega) hx2 (Lib.hid fun W A c hB => ?_)).mono fun e w' hq => DecPost.bad hD hq
      by_cases hx : 8 * r.length < x2
      · exact pos_bad A c r.length x2 x1 W hx (by omega)
      · rcases hb4 with h4 | h4
        · exact absurd h4 hx
        · refine (HPS (by omega) W A c hB).mono fun e w' hq => ?_
          obtain ⟨h2, h3⟩ := hq
          rcases h2 with ⟨_, he⟩ | ⟨l, v, hl, _⟩
          · exact ⟨he, h3⟩
          · rw [h4] at hl; cases hl
    · have hx3 : x2 ≤ 8 * r.length := by
        have := fun hh => hb4 (.inl hh)
        omega
      obtain ⟨l, hl⟩ := Option.ne_none_iff_exists'.mp (fun hh => hb4 (.inr hh))
      have hD := dec_all ho hp h1 hx1 hq h2 hr hx3
      rw [hl, Option.bind_some] at hD
      have hll : l.length = x1 := by
        unfold Po.gaps at hl
        obtain ⟨s, hs, rfl⟩ := Option.map_eq_some_iff.mp hl
        exact (Po.gst_inv _ _ _ hs).2.2.2
      have HP1 : Hid (∀ W A c, Bs W A r.length c r → Calls Try.prog 73 #[.slice A r.length c, .int .i64 (x2 : Nat), .int .i64 (x1 : Nat)] W fun e w' => ∃ lA lc, e = .returned (.tuple #[.slice lA l.length lc, .bool true]) ∧ Kd.C (Kd.int .i64) w' lA l.length l ∧ Below W.heap.size W w') := Lib.hid (fun W A c hB => by
        refine (HPS hx3 W A c hB).mono fun e w' hq => ?_
        obtain ⟨h2, h3⟩ := hq
        rcases h2 with ⟨h4, _⟩ | ⟨l1, v, hl1, _, he, ho⟩
        · rw [hl] at h4; cases h4
        · rw [hl] at hl1
          obtain rfl := Option.some.inj hl1
          obtain ⟨lA, lc, rfl, _, hC⟩ := own_C rfl ho
          exact ⟨lA, lc, he, hC, h3⟩)
      by_cases hb5 : Po.errF l = 0
      · have HBU : Hid (∀ W A c, Kd.C (Kd.int .i64) W A l.length l → Calls Try.prog 62 #[.slice A l.length c] W fun e w' => ∃ la gv sv, e = .returned (.tuple #[.pointer (some ⟨la, 0, none⟩), .int .i64 0]) ∧ IsList W.heap.size w' la gv sv l ∧ Below W.heap.size W w') := Lib.hid (fun W A c hC => by
          refine (build_calls A c l W hC (by omega)).mono fun e w' hq => ?_
          obtain ⟨h1, h2⟩ := hq
          rcases h1 with ⟨hne, _⟩ | ⟨_, la, gv, sv, he, hL⟩
          · exact absurd hb5 hne
          · exact ⟨la, gv, sv, he, hL, h2⟩)
        have HEN : Hid (∀ B la gv sv W, IsList B W la gv sv l → Calls Try.prog 37 #[.pointer (some ⟨la, 0, none⟩)] W fun e w' => ∃ A c, e = .returned (.slice A (Po.Enc l).length c) ∧ Bs w' A (Po.Enc l).length c (Po.Enc l) ∧ Below W.heap.size W w') := Lib.hid (fun B la gv sv W hL => enB_calls hL _ rfl)
        have HEQ : Hid (∀ W A1 c1, Bs W A1 (Po.Enc l).length c1 (Po.Enc l) → Below w.heap.size w W → Calls Try.prog 74 #[.slice A1 (Po.Enc l).length c1, .slice A n c] W fun e w' => e = .returned (.bool (decide (Po.Enc l = b))) ∧ Below W.heap.size W w') := Lib.hid (fun W A1 c1 hB hW => eqB_calls hB (HA W hW))
        by_cases hb6 : Po.Enc l = b
        · have hS : Po.dec b = some l := by rw [hD, Po.fin, if_pos ⟨hb5, hb6⟩]
          refine (dc_ok A n c w p.length x1 k1 q.length x2 k2 r.length p q r HU H1 hK1 H2 hK2 hx1 (by omega) hx2 l _ _ (decide_eq_true hb6) HP1 HBU HEN HEQ).mono fun e w' hq => ?_
          obtain ⟨la, gv, sv, he, hL, hB⟩ := hq
          exact ⟨.inr ⟨l, la, gv, sv, hS, he, hL⟩, hB⟩
        · have hN : Po.dec b = none := by rw [hD, Po.fin, if_neg (fun hh => hb6 hh.2)]
          exact (dc_enc A n c w p.length x1 k1 q.length x2 k2 r.length p q r HU H1 hK1 H2 hK2 hx1 (by omega) hx2 l _ _ (decide_eq_false hb6) HP1 HBU HEN HEQ).mono fun e w' hq => DecPost.bad hN hq
      · have hN : Po.dec b = none := by rw [hD, Po.fin, if_neg (fun hh => hb5 hh.1)]
        refine (dc_build A n c w p.length x1 k1 q.length x2 k2 r.length p q r HU H1 hK1 H2 hK2 hx1 (by omega) hx2 l (Po.errF l) HP1 (Lib.hid fun W A c hC => ?_) hb5).mono fun e w' hq => DecPost.bad hN hq
        refine (build_calls A c l W hC (by omega)).mono fun e w' hq => ?_
        obtain ⟨h1, h2⟩ := hq
        rcases h1 with ⟨_, he⟩ | ⟨h0, _⟩
        · exact ⟨he, h2⟩
        · exact absurd h0 hb5
end Go.Proofs.Ytmeojlamadcedaa
