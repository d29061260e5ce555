/- Bytes read as a string, in any later world; corporalaw03.ChecksumSeals.
   Conditions: those of the theorems. -/
import Derived.Test.YtmeojlamadcedaaCkWf
namespace Go.Proofs.Ytmeojlamadcedaa.Given
set_option linter.unusedSimpArgs false
open Go.RowKit Go.Sort Go.Proofs.YtmeojlamadcedaaW.PrintWords Go.Proofs.YtmeojlamadcedaaW.PrintLast Go.Proofs.YtmeojlamadcedaaW.PrintMore

/-- The value is a slice of these bytes. -/
def Txt (w : World) (v : Value) (xs : List Int) : Prop := ∃ A c, v = .slice A xs.length c ∧ xs.length ≤ c ∧ Kd.C (Kd.int .u8) w A xs.length xs
theorem Txt.below {w w1 : World} {v : Value} {xs : List Int} (h : Txt w v xs) (hb : Below w.heap.size w w1) : Txt w1 v xs := by
  obtain ⟨A, c, e, hc, h⟩ := h
  exact ⟨A, c, e, hc, Kd.C_below h hb⟩
theorem Txt.ofR {e : Nat} {w : World} {base : Nat} {ok : Nat → Prop} {v : Value} {xs : List Int} (h : Kd.R (Kd.int .u8) e w base ok v xs) : Txt w v xs := Kd.R_reads h
theorem Txt.run {w : World} {v : Value} {xs : List Int} (h : Txt w v xs) : (convert 22 9 v).run Try.prog w = .ok (.string (strOfNums xs)) w := by
  obtain ⟨A, c, rfl, hc, h⟩ := h
  exact Kd.C_string (e := 5) (by kernel_rfl) (by kernel_rfl) (by kernel_rfl) h
theorem Txt.runN {w : World} {v : Value} {xs : List Int} (h : Txt w v xs) (q : Nat) : (convert 22 9 v).run Try.prog (w.drewN q) = .ok (.string (strOfNums xs)) (w.drewN q) :=
  Txt.run (w := w.drewN q) (h.below (Below.drewN_ w q))
where Below.drewN_ (w : World) (q : Nat) : Below w.heap.size w (w.drewN q) := below_drewN (Below.refl _ _) q
theorem Txt.runD {w : World} {v : Value} {xs : List Int} (h : Txt w v xs) : (convert 22 9 v).run Try.prog w.drew = .ok (.string (strOfNums xs)) w.drew := h.runN 1

theorem rseal_ok {l : List Int} (h : Byt l) (hl : l.length < 1000000000000) : C.corporaref03_Seal.f l = some (ints (Ck.shutIt (u8s l))) := by
  have e1 : ([] : List Int).length + l.length < 140737488355328 := by simp; omega
  have hs := Ck.sum_lt (u8s l)
  have el : [((Ck.sum (u8s l) : Nat) : Int) % 256, ((Ck.sum (u8s l) : Nat) : Int) / 256 % 256, ((Ck.sum (u8s l) : Nat) : Int) / 65536 % 256, ((Ck.sum (u8s l) : Nat) : Int) / 16777216 % 256] = ints (Ck.le4 (Ck.sum (u8s l))) := by
    unfold Ck.le4 ints
    simp only [List.map_cons, List.map_nil, UInt8.toNat_ofNat']
    simp
  have e2 : ([] ++ l : List Int).length + (ints (Ck.le4 (Ck.sum (u8s l)))).length < 140737488355328 := by rw [ints_len]; simp [Ck.le4_length]; omega
  unfold C.corporaref03_Seal.f
  rw [rsum_ok h hl, Option.bind_some, if_pos e1, Option.bind_some]
  rw [el, Option.bind_some, if_pos e2, List.nil_append]
  have e3 : ints (u8s l ++ Ck.le4 (Ck.sum (u8s l))) = l ++ ints (Ck.le4 (Ck.sum (u8s l))) := by
    rw [show ints (u8s l ++ Ck.le4 (Ck.sum (u8s l))) = ints (u8s l) ++ ints (Ck.le4 (Ck.sum (u8s l))) from List.map_append, ints_u8s h]
  unfold Ck.shutIt
  rw [e3]
theorem unseal_shut {l : List Int} (h : Byt l) (hl : l.length < 100000000000) : checksum_Unseal.f (ints (Ck.shutIt (u8s l))) = some (l, 0) := by
  have hS : (Ck.shutIt (u8s l)).length = l.length + 4 := by rw [Ck.shut_length, u8s_len]
  have c1 : Byt (ints (Ck.shutIt (u8s l))) ∧ (ints (Ck.shutIt (u8s l))).length < 1000000000000 := ⟨byt_ints _, by rw [ints_len, hS]; omega⟩
  have c2 : ¬ (ints (Ck.shutIt (u8s l))).length < 4 := by rw [ints_len, hS]; omega
  have hg := (Ck.shut_good (u8s l)).2
  have c3 : Ck.le4 (Ck.sum ((u8s (ints (Ck.shutIt (u8s l)))).take ((ints (Ck.shutIt (u8s l))).length - 4))) = (u8s (ints (Ck.shutIt (u8s l)))).drop ((ints (Ck.shutIt (u8s l))).length - 4) := by
    rw [u8s_ints, ints_len]; exact hg
  have e : (Ck.shutIt (u8s l)).take (l.length + 4 - 4) = u8s l := by
    rw [Nat.add_sub_cancel, ← u8s_len l]; unfold Ck.shutIt; exact List.take_left
  unfold checksum_Unseal.f
  rw [if_pos c1, if_neg c2, if_pos c3, u8s_ints, ints_len, hS, e, ints_u8s h]

/-- The facts of one world for the walk. -/
def Runs (w : World) (v : Value) (s : ByteArray) : Prop := (∀ q, (convert 22 9 v).run Try.prog (w.drewN q) = .ok (.string s) (w.drewN q)) ∧ (convert 22 9 v).run Try.prog w.drew = .ok (.string s) w.drew ∧ (convert 22 9 v).run Try.prog w = .ok (.string s) w
theorem Txt.runs {w : World} {v : Value} {xs : List Int} (h : Txt w v xs) : Runs w v (strOfNums xs) := ⟨fun q => h.runN q, h.runD, h.run⟩

set_option maxHeartbeats 2000000 in
set_option maxRecDepth 100000 in
theorem seals_true (A0 : Option Addr) (c0 : Nat) (l0 : List Int) (w : World) (hr0 : Kd.C (Kd.int .u8) w A0 l0.length l0) (hc0 : l0.length ≤ c0) (hB : Byt l0) (hl : l0.length ≤ 2000) :
    Calls Try.prog 5 #[.slice A0 l0.length c0] w fun e w' => e = .returned (.bool true) ∧ Below w.heap.size w w' := by
  have hz : decide ((l0.length : Int) > 2000) = false := by simp; omega
  have H1 := Lib.hid (checksum_Seal.calls A0 c0 l0 _ w hr0 hc0 (seal_ok hB (by omega)))
  have HS := Lib.hid (rseal_ok hB (show l0.length < 1000000000000 by omega))
  have HU := Lib.hid (unseal_shut hB (show l0.length < 100000000000 by omega))
  have HC0 : Hid (Txt w (.slice A0 l0.length c0) l0) := Lib.hid ⟨A0, c0, rfl, hc0, hr0⟩
  have HR := Lib.hid hr0
  have HCC := Lib.hid hc0
  clear hr0 hB hc0
  generalize ints (Ck.shutIt (u8s l0)) = X at *
  go_enter Try.func5, Try.ntmps5
  go_wp2_with (first
    | (go_at_call 30; (with_reducible refine H1.out.mono ?_); rintro e w1 ⟨v1, rfl, hR, hb⟩; obtain ⟨A1, c1, rfl, hc1, hC1⟩ := Kd.R_reads hR; have HX1 : Hid (Txt w1 (.slice A1 X.length c1) X) := Lib.hid ⟨A1, c1, rfl, hc1, hC1⟩; have HB1 := Lib.hid hb; have H2 := Lib.hid (checksum_Unseal.calls A1 c1 X _ _ w1 hC1 hc1 HU.out); clear hR hb hc1 hC1)
    | (go_at_call 31; (with_reducible refine H2.out.mono ?_); rintro e w2 ⟨v2, rfl, hR, hb⟩; obtain ⟨A2, c2, rfl, hc2, hC2⟩ := Kd.R_reads hR; have HX2 : Hid (Txt w2 (.slice A2 l0.length c2) l0) := Lib.hid ⟨A2, c2, rfl, hc2, hC2⟩; have HB2 := Lib.hid hb; clear hR hb hc2 hC2))
  have hb2 : RowKit.Below w.heap.size w w2 := HB1.out.trans (HB2.out.mono HB1.out.size)
  have H3 : Hid (∀ W, RowKit.Below w2.heap.size w2 W → Calls Try.prog 32 #[.slice A0 l0.length c0] W fun e w' => ∃ v3, e = .returned v3 ∧ Txt w' v3 X ∧ Txt w' (.slice A1 X.length c1) X ∧ Txt w' (.slice A2 l0.length c2) l0 ∧ Txt w' (.slice A0 l0.length c0) l0 ∧ RowKit.Below w.heap.size w w') := Lib.hid (fun W hW => by
    have hbw := hb2.trans (hW.mono hb2.size)
    have hC := Kd.C_below HR.out hbw
    refine (C.corporaref03_Seal.calls A0 c0 l0 X W hC HCC.out HS.out).mono fun e w' hq => ?_
    obtain ⟨v3, rfl, hR, hb⟩ := hq
    have hbb : RowKit.Below w2.heap.size w2 w' := hW.trans (hb.mono hW.size)
    exact ⟨v3, rfl, Txt.ofR hR, HX1.out.below (HB2.out.trans (hbb.mono HB2.out.size)), HX2.out.below hbb, HC0.out.below (hbw.trans (hb.mono hbw.size)), hbw.trans (hb.mono hbw.size)⟩)
  refine start_ (n := 21) (S := fun w' => (convert 22 9 (.slice A1 X.length c1)).run Try.prog w' = .ok (.string (strOfNums X)) w' ∧ (convert 22 9 (.slice A2 l0.length c2)).run Try.prog w' = .ok (.string (strOfNums l0)) w' ∧ (convert 22 9 (.slice A0 l0.length c0)).run Try.prog w' = .ok (.string (strOfNums l0)) w') (ds := []) #[false, false, false, false, false, false, false, false, false, false, false, false, false, false, false, false, false, false, false, false, false] (by kernel_rfl) rfl rfl ⟨(HX1.out.below HB2.out).runD, HX2.out.runD, (HC0.out.below hb2).runD⟩ (fun hHeld => ?_)
  refine pure_ (i := 0) (N := some 16) (v := ?_) (a' := ?_) #[true, false, false, false, false, false, false, false, false, false, false, false, false, false, false, false, false, false, false, false, false] rfl rfl (by kernel_rfl) (fun _ _ _ h => h) (Or.inl ⟨by rfl, ?_⟩) ?_ ?_
  rotate_left
  · intro w'
    go_simp
    with_reducible rfl
  rotate_left
  · simp only [Act.put, List.setIfInBounds_toArray, List.set_cons_zero, List.set_cons_succ, i64_w, i32_w]
    rfl
  refine take_ (i := 1) (N := some 17) (v := ?_) (a' := ?_) #[true, true, false, false, false, false, false, false, false, false, false, false, false, false, false, false, false, false, false, false, false] rfl rfl (by kernel_rfl) (fun _ _ _ h => h) (Or.inl ⟨by rfl, ?_⟩) hHeld ?_ ?_
  rotate_left
  · rintro w' ⟨s0, s1, s2⟩
    go_simp
    with_reducible rfl
  rotate_left
  · simp only [Act.put, List.setIfInBounds_toArray, List.set_cons_zero, List.set_cons_succ, i64_w, i32_w]
    rfl
  refine pure_ (i := 2) (N := some 18) (v := ?_) (a' := ?_) #[true, true, true, false, false, false, false, false, false, false, false, false, false, false, false, false, false, false, false, false, false] rfl rfl (by kernel_rfl) (fun _ _ _ h => h) (Or.inl ⟨by rfl, ?_⟩) ?_ ?_
  rotate_left
  · intro w'
    go_simp
    with_reducible rfl
  rotate_left
  · simp only [Act.put, List.setIfInBounds_toArray, List.set_cons_zero, List.set_cons_succ, i64_w, i32_w]
    rfl
  refine one_ (i := 3) (N := some 19) #[true, true, true, true, false, false, false, false, false, false, false, false, false, false, false, false, false, false, false, false, false] rfl rfl (by kernel_rfl) (by decide) (fun K hK => ?_)
  refine goes_ Try.func32 (by kernel_rfl) rfl #[.slice A0 l0.length c0] (by rfl) rfl rfl (by (try simp only [List.map_toArray, List.map_cons, List.map_nil]); first | done | rfl) ?_
  with_reducible refine (H3.out _ ((RowKit.Below.refl _ _).drew)).mono ?_
  rintro e w3 ⟨v3, rfl, r3, r1, r2, r0, hb3⟩
  have HB3 := Lib.hid hb3
  have R1 := Lib.hid r1
  have R2 := Lib.hid r2
  have R0 := Lib.hid r0
  have R3 := Lib.hid r3
  clear hb3 r1 r2 r0 r3
  refine ⟨_, rfl, ?_⟩
  refine hK.out _ _ ⟨R1.out.run, R2.out.run, R0.out.run⟩ (fun hHeld => ?_)
  clear hK K
  refine norm_ (a' := ?_) ?_ ?_
  rotate_left
  · show Act.put _ (some 19) _ = _
    simp only [Act.put, List.setIfInBounds_toArray, List.set_cons_zero, List.set_cons_succ, i64_w, i32_w]
    rfl
  refine one_ (i := 4) (N := some 20) #[true, true, true, true, true, false, false, false, false, false, false, false, false, false, false, false, false, false, false, false, false] rfl rfl (by kernel_rfl) (by decide) (fun K hK => ?_)
  have q3 := R3.out.run
  refine value_ (w1 := ?_) (v := ?_) (by rfl) rfl ?_ ?_
  rotate_left 2
  · go_simp
    constructor
    · rfl
    · rfl
  refine hK.out _ _ hHeld (fun hHeld => ?_)
  clear hK K
  refine norm_ (a' := ?_) ?_ ?_
  rotate_left
  · show Act.put _ (some 20) _ = _
    simp only [Act.put, List.setIfInBounds_toArray, List.set_cons_zero, List.set_cons_succ, i64_w, i32_w]
    rfl
  refine pure_ (i := 5) (N := some 21) (v := ?_) (a' := ?_) #[true, true, true, true, true, true, false, false, false, false, false, false, false, false, false, false, false, false, false, false, false] rfl rfl (by kernel_rfl) (fun _ _ _ h => h) (Or.inl ⟨by rfl, ?_⟩) ?_ ?_
  rotate_left
  · intro w'
    go_simp
    with_reducible rfl
  rotate_left
  · simp only [Act.put, List.setIfInBounds_toArray, List.set_cons_zero, List.set_cons_succ, i64_w, i32_w]
    rfl
  refine pure_ (i := 6) (N := some 22) (v := ?_) (a' := ?_) #[true, true, true, true, true, true, true, false, false, false, false, false, false, false, false, false, false, false, false, false, false] rfl rfl (by kernel_rfl) (fun _ _ _ h => h) (Or.inl ⟨by rfl, ?_⟩) ?_ ?_
  rotate_left
  · intro w'
    go_simp
    with_reducible rfl
  rotate_left
  · simp only [Act.put, List.setIfInBounds_toArray, List.set_cons_zero, List.set_cons_succ, i64_w, i32_w]
    rfl
  refine pure_ (i := 7) (N := some 23) (v := ?_) (a' := ?_) #[true, true, true, true, true, true, true, true, false, false, false, false, false, false, false, false, false, false, false, false, false] rfl rfl (by kernel_rfl) (fun _ _ _ h => h) (Or.inl ⟨by rfl, ?_⟩) ?_ ?_
  rotate_left
  · intro w'
    go_simp
    with_reducible rfl
  rotate_left
  · simp only [Act.put, List.setIfInBounds_toArray, List.set_cons_zero, List.set_cons_succ, i64_w, i32_w]
    rfl
  refine pure_ (i := 8) (N := some 24) (v := ?_) (a' := ?_) #[true, true, true, true, true, true, true, true, true, false, false, false, false, false, false, false, false, false, false, false, false] rfl rfl (by kernel_rfl) (fun _ _ _ h => h) (Or.inl ⟨by rfl, ?_⟩) ?_ ?_
  rotate_left
  · intro w'
    go_simp
    with_reducible rfl
  rotate_left
  · simp only [Act.put, List.setIfInBounds_toArray, List.set_cons_zero, List.set_cons_succ, i64_w, i32_w]
    rfl
  refine pure_ (i := 9) (N := some 25) (v := ?_) (a' := ?_) #[true, true, true, true, true, true, true, true, true, true, false, false, false, false, false, false, false, false, false, false, false] rfl rfl (by kernel_rfl) (fun _ _ _ h => h) (Or.inl ⟨by rfl, ?_⟩) ?_ ?_
  rotate_left
  · intro w'
    go_simp
    with_reducible rfl
  rotate_left
  · simp only [Act.put, List.setIfInBounds_toArray, List.set_cons_zero, List.set_cons_succ, i64_w, i32_w]
    rfl
  refine pure_ (i := 10) (N := some 26) (v := ?_) (a' := ?_) #[true, true, true, true, true, true, true, true, true, true, true, false, false, false, false, false, false, false, false, false, false] rfl rfl (by kernel_rfl) (fun _ _ _ h => h) (Or.inl ⟨by rfl, ?_⟩) ?_ ?_
  rotate_left
  · intro w'
    go_simp
    with_reducible rfl
  rotate_left
  · simp only [Act.put, List.setIfInBounds_toArray, List.set_cons_zero, List.set_cons_succ, i64_w, i32_w]
    rfl
  refine pure_ (i := 11) (N := some 27) (v := ?_) (a' := ?_) #[true, true, true, true, true, true, true, true, true, true, true, true, false, false, false, false, false, false, false, false, false] rfl rfl (by kernel_rfl) (fun _ _ _ h => h) (Or.inl ⟨by rfl, ?_⟩) ?_ ?_
  rotate_left
  · intro w'
    go_simp
    with_reducible rfl
  rotate_left
  · simp only [Act.put, List.setIfInBounds_toArray, List.set_cons_zero, List.set_cons_succ, i64_w, i32_w]
    rfl
  refine take_ (i := 12) (N := some 28) (v := ?_) (a' := ?_) #[true, true, true, true, true, true, true, true, true, true, true, true, true, false, false, false, false, false, false, false, false] rfl rfl (by kernel_rfl) (fun _ _ _ h => h) (Or.inl ⟨by rfl, ?_⟩) hHeld ?_ ?_
  rotate_left
  · rintro w' ⟨s0, s1, s2⟩
    go_simp
    with_reducible rfl
  rotate_left
  · simp only [Act.put, List.setIfInBounds_toArray, List.set_cons_zero, List.set_cons_succ, i64_w, i32_w]
    rfl
  refine pure_ (i := 13) (N := some 29) (v := ?_) (a' := ?_) #[true, true, true, true, true, true, true, true, true, true, true, true, true, true, false, false, false, false, false, false, false] rfl rfl (by kernel_rfl) (fun _ _ _ h => h) (Or.inl ⟨by rfl, ?_⟩) ?_ ?_
  rotate_left
  · intro w'
    go_simp
    with_reducible rfl
  rotate_left
  · simp only [Act.put, List.setIfInBounds_toArray, List.set_cons_zero, List.set_cons_succ, i64_w, i32_w]
    rfl
  refine take_ (i := 14) (N := some 30) (v := ?_) (a' := ?_) #[true, true, true, true, true, true, true, true, true, true, true, true, true, true, true, false, false, false, false, false, false] rfl rfl (by kernel_rfl) (fun _ _ _ h => h) (Or.inl ⟨by rfl, ?_⟩) hHeld ?_ ?_
  rotate_left
  · rintro w' ⟨s0, s1, s2⟩
    go_simp
    with_reducible rfl
  rotate_left
  · simp only [Act.put, List.setIfInBounds_toArray, List.set_cons_zero, List.set_cons_succ, i64_w, i32_w]
    rfl
  refine pure_ (i := 15) (N := some 31) (v := ?_) (a' := ?_) #[true, true, true, true, true, true, true, true, true, true, true, true, true, true, true, true, false, false, false, false, false] rfl rfl (by kernel_rfl) (fun _ _ _ h => h) (Or.inl ⟨by rfl, ?_⟩) ?_ ?_
  rotate_left
  · intro w'
    go_simp
    with_reducible rfl
  rotate_left
  · simp only [Act.put, List.setIfInBounds_toArray, List.set_cons_zero, List.set_cons_succ, i64_w, i32_w]
    rfl
  refine pure_ (i := 16) (N := some 32) (v := ?_) (a' := ?_) #[true, true, true, true, true, true, true, true, true, true, true, true, true, true, true, true, true, false, false, false, false] rfl rfl (by kernel_rfl) (fun _ _ _ h => h) (Or.inl ⟨by rfl, ?_⟩) ?_ ?_
  rotate_left
  · intro w'
    go_simp
    with_reducible rfl
  rotate_left
  · simp only [Act.put, List.setIfInBounds_toArray, List.set_cons_zero, List.set_cons_succ, i64_w, i32_w]
    rfl
  refine pure_ (i := 17) (N := some 33) (v := ?_) (a' := ?_) #[true, true, true, true, true, true, true, true, true, true, true, true, true, true, true, true, true, true, false, false, false] rfl rfl (by kernel_rfl) (fun _ _ _ h => h) (Or.inl ⟨by rfl, ?_⟩) ?_ ?_
  rotate_left
  · intro w'
    go_simp
    with_reducible rfl
  rotate_left
  · simp only [Act.put, List.setIfInBounds_toArray, List.set_cons_zero, List.set_cons_succ, i64_w, i32_w]
    rfl
  refine one_ (i := 18) (N := some 34) #[true, true, true, true, true, true, true, true, true, true, true, true, true, true, true, true, true, true, true, false, false] rfl rfl (by kernel_rfl) (by decide) (fun K hK => ?_)
  refine goes_ Try.func29 (by kernel_rfl) rfl #[] (by rfl) rfl rfl (by (try simp only [List.map_toArray, List.map_cons, List.map_nil]); first | done | rfl) ?_
  with_reducible refine (awake_true w3).mono ?_
  rintro e w4 ⟨rfl, hb4⟩
  have HB4 := Lib.hid hb4
  clear hb4
  refine ⟨_, rfl, ?_⟩
  refine hK.out _ _ ⟨(R1.out.below HB4.out).run, (R2.out.below HB4.out).run, (R0.out.below HB4.out).run⟩ (fun hHeld => ?_)
  clear hK K
  refine norm_ (a' := ?_) ?_ ?_
  rotate_left
  · show Act.put _ (some 34) _ = _
    simp only [Act.put, List.setIfInBounds_toArray, List.set_cons_zero, List.set_cons_succ, i64_w, i32_w]
    rfl
  refine pure_ (i := 19) (N := some 35) (v := ?_) (a' := ?_) #[true, true, true, true, true, true, true, true, true, true, true, true, true, true, true, true, true, true, true, true, false] rfl rfl (by kernel_rfl) (fun _ _ _ h => h) (Or.inl ⟨by rfl, ?_⟩) ?_ ?_
  rotate_left
  · intro w'
    go_simp
    with_reducible rfl
  rotate_left
  · simp only [Act.put, List.setIfInBounds_toArray, List.set_cons_zero, List.set_cons_succ, i64_w, i32_w]
    rfl
  refine pure_ (i := 20) (N := some 2) (v := ?_) (a' := ?_) #[true, true, true, true, true, true, true, true, true, true, true, true, true, true, true, true, true, true, true, true, true] rfl rfl (by kernel_rfl) (fun _ _ _ h => h) (Or.inl ⟨by rfl, ?_⟩) ?_ ?_
  rotate_left
  · intro w'
    go_simp
    with_reducible rfl
  rotate_left
  · simp only [Act.put, List.setIfInBounds_toArray, List.set_cons_zero, List.set_cons_succ, i64_w, i32_w]
    rfl
  refine done_ (by kernel_rfl) ?_
  go_wp2
  go_ret
  exact ⟨rfl, HB3.out.trans (HB4.out.mono HB3.out.size)⟩

theorem seals_long (A0 : Option Addr) (c0 : Nat) (l0 : List Int) (w : World) (hl : ¬ l0.length ≤ 2000) :
    Calls Try.prog 5 #[.slice A0 l0.length c0] w fun e w' => e = .returned (.bool true) ∧ Below w.heap.size w w' := by
  have hz : decide ((l0.length : Int) > 2000) = true := by simp; omega
  go_enter Try.func5, Try.ntmps5
  go_wp2
  go_ret
  exact ⟨rfl, RowKit.Below.refl _ _⟩

def corporalaw03_ChecksumSeals.f (l0 : List Int) : Option Bool := if Byt l0 then some true else none
theorem corporalaw03_ChecksumSeals.calls (A0 : Option Addr) (c0 : Nat) (l0 : List Int) (r : Bool) (w : World) (hr0 : Kd.C (Kd.int .u8) w A0 l0.length l0) (hc0 : l0.length ≤ c0) (h : corporalaw03_ChecksumSeals.f l0 = some r) :
    Calls Try.prog 5 #[.slice A0 l0.length c0] w fun e w' => e = .returned (.bool r) ∧ Below w.heap.size w w' := by
  unfold corporalaw03_ChecksumSeals.f at h
  split at h
  · rename_i hB
    obtain rfl := Option.some.inj h
    by_cases hl : l0.length ≤ 2000
    · exact seals_true A0 c0 l0 w hr0 hc0 hB hl
    · exact seals_long A0 c0 l0 w hl
  · cases h

end Go.Proofs.Ytmeojlamadcedaa.Given
