/- Words of chapter 3's kinds; small words for rounds; bytes read as a string; the reference's Unseal.
   Conditions: those of the theorems. -/
import Derived.Test.YtmeojlamadcedaaGivenCk
import Derived.Test.YtmeojlamadcedaaCx1
import Derived.RowKit

namespace Go.Proofs.Ytmeojlamadcedaa.Given
open Go.RowKit Go.Proofs.YtmeojlamadcedaaW.PrintWords Go.Proofs.YtmeojlamadcedaaW.PrintLast Go.Proofs.YtmeojlamadcedaaW.PrintMore

theorem byt_of {l : List Int} (h : ∀ x ∈ l, (Lit.int .u8 x).wf = true) : Byt l := fun x hx => by
  have := h x hx
  simp [Lit.wf, IntKind.min, IntKind.max, IntKind.bits, IntKind.signed] at this
  omega
theorem u32_of {x : Int} (h : (Lit.int .u32 x).wf = true) : U32 x := by
  simp [Lit.wf, IntKind.min, IntKind.max, IntKind.bits, IntKind.signed] at h
  exact ⟨by omega, by omega⟩
theorem sum_ok {l : List Int} (h : Byt l) (hl : l.length < 1000000000000) : checksum_Sum.f l = some ((Ck.sum (u8s l) : Nat) : Int) := if_pos ⟨h, hl⟩
theorem rsum_ok {l : List Int} (h : Byt l) (hl : l.length < 1000000000000) : corporaref03_Sum.f l = some ((Ck.sum (u8s l) : Nat) : Int) := if_pos ⟨h, hl⟩
theorem seal_ok {l : List Int} (h : Byt l) (hl : l.length < 1000000000000) : checksum_Seal.f l = some (ints (Ck.shutIt (u8s l))) := if_pos ⟨h, hl⟩
theorem combine_ok {x y n : Nat} (hx : x < 2 ^ 32) (hy : y < 2 ^ 32) (hn : n < 1000000000000) : checksum_Combine.f x y n = some ((Ck.sts (8 * n) x ^^^ y : Nat) : Int) := by
  unfold checksum_Combine.f
  rw [if_pos ⟨⟨by omega, by omega⟩, ⟨by omega, by omega⟩, by omega⟩, if_neg (by omega)]
  simp only [Int.toNat_natCast]
theorem u8s_append (a b : List Int) : u8s (a ++ b) = u8s a ++ u8s b := List.map_append
theorem byt_append {a b : List Int} (ha : Byt a) (hb : Byt b) : Byt (a ++ b) := fun x hx => by
  rcases List.mem_append.mp hx with h | h
  · exact ha x h
  · exact hb x h

theorem byt_ints (l : List UInt8) : Byt (ints l) := fun x hx => by
  obtain ⟨b, _, rfl⟩ := List.mem_map.mp hx
  have := b.toNat_lt
  omega
theorem u8s_ints (l : List UInt8) : u8s (ints l) = l := by
  unfold u8s ints
  rw [List.map_map]
  have e : l.map ((fun x : Int => UInt8.ofNat x.toNat) ∘ fun b : UInt8 => ((b.toNat : Nat) : Int)) = l.map id := List.map_congr_left fun x _ => by
    show UInt8.ofNat (((x.toNat : Nat) : Int)).toNat = x
    rw [Int.toNat_natCast]; exact UInt8.ofNat_toNat
  rw [e, List.map_id]

end Go.Proofs.Ytmeojlamadcedaa.Given

namespace Go.Proofs.Ytmeojlamadcedaa.Ev0
open Go.RowKit Go.Proofs.YtmeojlamadcedaaW.PrintWords Go.Proofs.YtmeojlamadcedaaW.PrintLast Go.Proofs.YtmeojlamadcedaaW.PrintMore

theorem Ev_next {α : Type} {g : Nat → Option α} {r : α} (h : Ev (fun k => g (k + 1)) r) : Ev g r := Ev.step (fun _ => rfl) h
theorem w1 {i : Nat} (h : i < 1099511627776) : wrap64 ((i : Int) + 1) = ((i + 1 : Nat) : Int) := by unfold wrap64; omega
theorem rd_nat (l : List Int) (i : Nat) : rd l (i : Int) = l.getD i 0 := rfl
theorem wrap_u64_small {i : Nat} (h : i < 1099511627776) : IntKind.u64.wrap (i : Int) = (i : Int) := by
  simp [IntKind.wrap, IntKind.bits, IntKind.signed]
  try omega
theorem wrap_i64_small {i : Int} (h0 : 0 ≤ i) (h : i < 1099511627776) : wrap64 i = i := by unfold wrap64; omega
end Go.Proofs.Ytmeojlamadcedaa.Ev0

namespace Go.Proofs.Ytmeojlamadcedaa.Given
set_option linter.unusedSimpArgs false
open Go.RowKit Go.Sort Go.Proofs.YtmeojlamadcedaaW.PrintWords Go.Proofs.YtmeojlamadcedaaW.PrintLast Go.Proofs.YtmeojlamadcedaaW.PrintMore

/-- The value is a slice of these bytes. -/
def Txt (w : World) (v : Value) (xs : List Int) : Prop := ∃ A c, v = .slice A xs.length c ∧ xs.length ≤ c ∧ Kd.C (Kd.int .u8) w A xs.length xs
theorem Txt.below {w w1 : World} {v : Value} {xs : List Int} (h : Txt w v xs) (hb : Below w.heap.size w w1) : Txt w1 v xs := by
  obtain ⟨A, c, e, hc, h⟩ := h
  exact ⟨A, c, e, hc, Kd.C_below h hb⟩
theorem Txt.ofR {e : Nat} {w : World} {base : Nat} {ok : Nat → Prop} {v : Value} {xs : List Int} (h : Kd.R (Kd.int .u8) e w base ok v xs) : Txt w v xs := Kd.R_reads h
theorem Txt.run {w : World} {v : Value} {xs : List Int} (h : Txt w v xs) : (convert 22 9 v).run Try.prog w = .ok (.string (strOfNums xs)) w := by
  obtain ⟨A, c, rfl, hc, h⟩ := h
  exact Kd.C_string (e := 5) (by kernel_rfl) (by kernel_rfl) (by kernel_rfl) h
theorem Txt.runN {w : World} {v : Value} {xs : List Int} (h : Txt w v xs) (q : Nat) : (convert 22 9 v).run Try.prog (w.drewN q) = .ok (.string (strOfNums xs)) (w.drewN q) :=
  Txt.run (w := w.drewN q) (h.below (Below.drewN_ w q))
where Below.drewN_ (w : World) (q : Nat) : Below w.heap.size w (w.drewN q) := below_drewN (Below.refl _ _) q
theorem Txt.runD {w : World} {v : Value} {xs : List Int} (h : Txt w v xs) : (convert 22 9 v).run Try.prog w.drew = .ok (.string (strOfNums xs)) w.drew := h.runN 1

theorem rseal_ok {l : List Int} (h : Byt l) (hl : l.length < 1000000000000) : C.corporaref03_Seal.f l = some (ints (Ck.shutIt (u8s l))) := by
  have e1 : ([] : List Int).length + l.length < 140737488355328 := by simp; omega
  have hs := Ck.sum_lt (u8s l)
  have el : [((Ck.sum (u8s l) : Nat) : Int) % 256, ((Ck.sum (u8s l) : Nat) : Int) / 256 % 256, ((Ck.sum (u8s l) : Nat) : Int) / 65536 % 256, ((Ck.sum (u8s l) : Nat) : Int) / 16777216 % 256] = ints (Ck.le4 (Ck.sum (u8s l))) := by
    unfold Ck.le4 ints
    simp only [List.map_cons, List.map_nil, UInt8.toNat_ofNat']
    simp
  have e2 : ([] ++ l : List Int).length + (ints (Ck.le4 (Ck.sum (u8s l)))).length < 140737488355328 := by rw [ints_len]; simp [Ck.le4_length]; omega
  unfold C.corporaref03_Seal.f
  rw [rsum_ok h hl, Option.bind_some, if_pos e1, Option.bind_some]
  rw [el, Option.bind_some, if_pos e2, List.nil_append]
  have e3 : ints (u8s l ++ Ck.le4 (Ck.sum (u8s l))) = l ++ ints (Ck.le4 (Ck.sum (u8s l))) := by
    rw [show ints (u8s l ++ Ck.le4 (Ck.sum (u8s l))) = ints (u8s l) ++ ints (Ck.le4 (Ck.sum (u8s l))) from List.map_append, ints_u8s h]
  unfold Ck.shutIt
  rw [e3]
theorem unseal_shut {l : List Int} (h : Byt l) (hl : l.length < 100000000000) : checksum_Unseal.f (ints (Ck.shutIt (u8s l))) = some (l, 0) := by
  have hS : (Ck.shutIt (u8s l)).length = l.length + 4 := by rw [Ck.shut_length, u8s_len]
  have c1 : Byt (ints (Ck.shutIt (u8s l))) ∧ (ints (Ck.shutIt (u8s l))).length < 1000000000000 := ⟨byt_ints _, by rw [ints_len, hS]; omega⟩
  have c2 : ¬ (ints (Ck.shutIt (u8s l))).length < 4 := by rw [ints_len, hS]; omega
  have hg := (Ck.shut_good (u8s l)).2
  have c3 : Ck.le4 (Ck.sum ((u8s (ints (Ck.shutIt (u8s l)))).take ((ints (Ck.shutIt (u8s l))).length - 4))) = (u8s (ints (Ck.shutIt (u8s l)))).drop ((ints (Ck.shutIt (u8s l))).length - 4) := by
    rw [u8s_ints, ints_len]; exact hg
  have e : (Ck.shutIt (u8s l)).take (l.length + 4 - 4) = u8s l := by
    rw [Nat.add_sub_cancel, ← u8s_len l]; unfold Ck.shutIt; exact List.take_left
  unfold checksum_Unseal.f
  rw [if_pos c1, if_neg c2, if_pos c3, u8s_ints, ints_len, hS, e, ints_u8s h]

/-- The facts of one world for the walk. -/
def Runs (w : World) (v : Value) (s : ByteArray) : Prop := (∀ q, (convert 22 9 v).run Try.prog (w.drewN q) = .ok (.string s) (w.drewN q)) ∧ (convert 22 9 v).run Try.prog w.drew = .ok (.string s) w.drew ∧ (convert 22 9 v).run Try.prog w = .ok (.string s) w
theorem Txt.runs {w : World} {v : Value} {xs : List Int} (h : Txt w v xs) : Runs w v (strOfNums xs) := ⟨fun q => h.runN q, h.runD, h.run⟩

end Go.Proofs.Ytmeojlamadcedaa.Given

namespace Go.Proofs.Ytmeojlamadcedaa.Given
set_option linter.unusedSimpArgs false
open Go.RowKit Go.Sort Go.Proofs.YtmeojlamadcedaaW.PrintWords Go.Proofs.YtmeojlamadcedaaW.PrintLast Go.Proofs.YtmeojlamadcedaaW.PrintMore

theorem Txt.take {w : World} {A : Option Addr} {c m : Nat} {l : List Int} (h : Txt w (.slice A m c) l) (n : Nat) (hn : n ≤ m) : Txt w (.slice A n c) (l.take n) := by
  obtain ⟨A', c', e, hc, h⟩ := h
  simp only [Value.slice.injEq] at e
  obtain ⟨rfl, rfl, rfl⟩ := e
  have hr := Kd.reads_of_C (enc := Value.int .u8) (d := (0 : Int)) (h1 := fun _ => rfl) h
  have hl : (l.take n).length = n := by rw [List.length_take]; omega
  refine ⟨A, c, by rw [hl], by omega, ?_⟩
  rw [hl]
  refine Kd.C_of_reads (d := (0 : Int)) (h1 := fun _ => rfl) ⟨hl, by have := hr.2.1; omega, fun h0 => ?_⟩
  obtain ⟨ad, e, hcell⟩ := hr.2.2 (by omega)
  refine ⟨ad, e, fun j hj => ?_⟩
  rw [hcell j (by omega), List.getD_eq_getElem?_getD, List.getD_eq_getElem?_getD, List.getElem?_take_of_lt hj]

/-- What the reference's Unseal leaves behind. -/
def UnR (w : World) (n : Nat) (X l0 : List Int) (e : Ending) (w' : World) : Prop :=
  ∃ v, e = .returned (.tuple #[v, .bool ((strOfNums X).toList == (strOfNums l0).toList)]) ∧ Txt w' v (l0.take n) ∧ RowKit.Below w.heap.size w w'

theorem Txt.ofOwn {w : World} {base n : Nat} {v : Value} {l : List Int} (hB : Byt l) (hl : l.length = n) (h : w.ownsRow base 5 1 v n (vals (u8s l))) : Txt w v l := by
  rw [vals_ints, ints_u8s hB] at h
  subst hl
  exact Txt.ofR (ok := fun _ => True) (Kd.R_of_own h (fun _ _ => trivial))

set_option maxHeartbeats 2000000 in
set_option maxRecDepth 100000 in
theorem runseal_long (ad : Addr) (c0 n : Nat) (l0 : List Int) (w : World) (hr0 : Kd.C (Kd.int .u8) w (some ad) l0.length l0) (hc0 : l0.length ≤ c0) (hB : Byt l0) (hl : l0.length < 1000000000) (hn : l0.length = n + 4) :
    Calls Try.prog 33 #[.slice (some ad) l0.length c0] w fun e w' => UnR w n (ints (Ck.shutIt (u8s (l0.take n)))) l0 e w' := by
  have hz : decide ((l0.length : Int) < 4) = false := by simp; omega
  have hlm : (l0.length : Int) - 4 = (n : Int) := by omega
  have h0n : (0 : Int) ≤ (n : Int) := by omega
  have hnl : (n : Int) ≤ (l0.length : Int) := by omega
  have hnc : (n : Int) ≤ (c0 : Int) := by omega
  have hlc : (l0.length : Int) ≤ (c0 : Int) := by omega
  have HT : Hid (Txt w (.slice (some ad) l0.length c0) l0) := Lib.hid ⟨some ad, c0, rfl, hc0, hr0⟩
  have htl : (l0.take n).length = n := by rw [List.length_take]; omega
  have hBt : Byt (l0.take n) := fun x hx => hB x (List.mem_of_mem_take hx)
  have HP : Hid (Txt w (.slice (some ad) n c0) (l0.take n)) := Lib.hid (HT.out.take n (by omega))
  have HS := Lib.hid (rseal_ok hBt (by omega))
  have H3 : Hid (∀ W, RowKit.Below w.heap.size w W → Calls Try.prog 32 #[.slice (some ad) n c0] W fun e w' => ∃ v3, e = .returned v3 ∧ Txt w' v3 (ints (Ck.shutIt (u8s (l0.take n)))) ∧ RowKit.Below W.heap.size W w') := Lib.hid (fun W hW => by
    obtain ⟨A', c', e, hc, hC⟩ := HP.out.below hW
    rw [htl] at e hc hC
    simp only [Value.slice.injEq] at e
    obtain ⟨rfl, -, rfl⟩ := e
    have h := C.corporaref03_Seal.calls (some ad) c0 (l0.take n) _ W (by rw [htl]; exact hC) (by rw [htl]; exact hc) HS.out
    rw [htl] at h
    refine h.mono fun e w' hq => ?_
    obtain ⟨v3, rfl, hR, hb⟩ := hq
    exact ⟨v3, rfl, Txt.ofR hR, hb⟩)
  have HV : Hid (∀ W, RowKit.Below w.heap.size w W → ∀ j u, (vals (u8s (l0.take n)))[j]? = some u → W.cell? (ad.add j) = some u) := Lib.hid (fun W hW => by
    obtain ⟨A', c', e, hc, hC⟩ := HP.out.below hW
    simp only [Value.slice.injEq] at e
    obtain ⟨rfl, -, -⟩ := e
    have h := reads8 hBt hC
    exact vals_at (h.2 ad rfl))
  have HL : Hid ((vals (u8s (l0.take n))).length = n * 1) := Lib.hid (by rw [vals, List.length_map, u8s_len, htl, Nat.mul_one])
  have HO : Hid (∀ (W : World) (base : Nat) (v : Value), W.ownsRow base 5 1 v n (vals (u8s (l0.take n))) → Txt W v (l0.take n)) := Lib.hid (fun W base v h => Txt.ofOwn hBt htl h)
  obtain ⟨i, hi, hi1, hi2, hi3⟩ := info5
  have hb0 : Hid (n * 1 ≤ 140737488355328 ∧ n ≤ maxLen) := Lib.hid (by simp only [maxLen]; omega)
  have hwn : wrap64 (n : Int) = (n : Int) := by unfold wrap64; omega
  have hltn : (l0.length : Int) < 9223372036854775808 := by omega
  clear hr0 hB hBt HP HS htl hn hl
  generalize ints (Ck.shutIt (u8s (l0.take n))) = X at *
  go_enter Try.func33, Try.ntmps33
  go_wp2
  refine start_ (n := 10) (S := fun w' => (convert 22 9 (.slice (some ad) l0.length c0)).run Try.prog w' = .ok (.string (strOfNums l0)) w') (ds := []) #[false, false, false, false, false, false, false, false, false, false] (by kernel_rfl) rfl rfl HT.out.runD (fun hHeld => ?_)
  refine pure_ (i := 0) (N := some 13) (v := ?_) (a' := ?_) #[true, false, false, false, false, false, false, false, false, false] rfl rfl (by kernel_rfl) (fun _ _ _ h => h) (Or.inl ⟨by rfl, ?_⟩) ?_ ?_
  rotate_left
  · intro w'
    go_simp
    with_reducible rfl
  rotate_left
  · simp only [Act.put, List.setIfInBounds_toArray, List.set_cons_zero, List.set_cons_succ, i64_w, i32_w]
    rfl
  refine pure_ (i := 2) (N := some 15) (v := ?_) (a' := ?_) #[true, false, true, false, false, false, false, false, false, false] rfl rfl (by kernel_rfl) (fun _ _ _ h => h) (Or.inl ⟨by rfl, ?_⟩) ?_ ?_
  rotate_left
  · intro w'
    go_simp
    with_reducible rfl
  rotate_left
  · simp only [Act.put, List.setIfInBounds_toArray, List.set_cons_zero, List.set_cons_succ, i64_w, i32_w]
    rfl
  refine pure_ (i := 5) (N := some 18) (v := ?_) (a' := ?_) #[true, false, true, false, false, true, false, false, false, false] rfl rfl (by kernel_rfl) (fun _ _ _ h => h) (Or.inl ⟨by rfl, ?_⟩) ?_ ?_
  rotate_left
  · intro w'
    go_simp
    with_reducible rfl
  rotate_left
  · simp only [Act.put, List.setIfInBounds_toArray, List.set_cons_zero, List.set_cons_succ, i64_w, i32_w]
    rfl
  refine take_ (i := 6) (N := some 19) (v := ?_) (a' := ?_) #[true, false, true, false, false, true, true, false, false, false] rfl rfl (by kernel_rfl) (fun _ _ _ h => h) (Or.inl ⟨by rfl, ?_⟩) hHeld ?_ ?_
  rotate_left
  · rintro w' s0
    go_simp
    with_reducible rfl
  rotate_left
  · simp only [Act.put, List.setIfInBounds_toArray, List.set_cons_zero, List.set_cons_succ, i64_w, i32_w]
    rfl
  refine one_ (i := 1) (N := some 14) #[true, true, true, false, false, true, true, false, false, false] rfl rfl (by kernel_rfl) (by decide) (fun K hK => ?_)
  rw [if_pos (by rfl)]
  refine wp_append_own w.drew (.const (.slice none 0 0)) (.tmp 13) 22 rfl w.heap.size 5 i (.int .u8 0) 1 1 (show Try.prog.underlying 22 = some (.slice 5) by kernel_rfl) hi hi1 hi2 hi3 rfl (by decide) (.slice none 0 0) 0 [] rfl (World.ownsRow_nil _ _ _ _) ad n c0 (vals (u8s (l0.take n))) rfl HL.out (HV.out _ (RowKit.Below.refl w.heap.size w).drew) (vals_one _) (by rw [Nat.zero_add]; exact hb0.out.2) (by rw [Nat.zero_add]; exact hb0.out.1) (Nat.le_refl _) ?_
  intro v' w1 hown hgr _
  rw [Nat.zero_add, List.nil_append] at hown
  have HOW := Lib.hid (HO.out _ _ _ hown)
  have HGR : Hid (RowKit.Below w.drew.heap.size w.drew w1) := Lib.hid (Below.grown (Below.refl _ _) hgr (Nat.le_refl _) (fun k hk => by cases hk))
  clear hown hgr
  refine hK.out _ _ (HT.out.below ((RowKit.Below.refl w.heap.size w).drew.trans (HGR.out.mono (Below.size (RowKit.Below.refl w.heap.size w).drew)))).run (fun hHeld => ?_)
  clear hK K
  refine norm_ (a' := ?_) ?_ ?_
  rotate_left
  · show Act.put _ (some 14) _ = _
    simp only [Act.put, List.setIfInBounds_toArray, List.set_cons_zero, List.set_cons_succ, i64_w, i32_w]
    rfl
  have HB1 : Hid (RowKit.Below w.heap.size w w1) := Lib.hid (RowKit.Below.trans ((RowKit.Below.refl _ w).drew) HGR.out)
  refine one_ (i := 3) (N := some 16) #[true, true, true, true, false, true, true, false, false, false] rfl rfl (by kernel_rfl) (by decide) (fun K hK => ?_)
  refine goes_ Try.func32 (by kernel_rfl) rfl #[.slice (some ad) n c0] (by rfl) rfl rfl (by (try simp only [List.map_toArray, List.map_cons, List.map_nil]); first | done | rfl) ?_
  with_reducible refine (H3.out _ HB1.out).mono ?_
  rintro e w2 ⟨v3, rfl, r3, hb3⟩
  have R3 := Lib.hid r3
  have HB3 := Lib.hid hb3
  clear r3 hb3
  refine ⟨_, rfl, ?_⟩
  refine hK.out _ _ (HT.out.below (HB1.out.trans (HB3.out.mono (Below.size HB1.out)))).run (fun hHeld => ?_)
  clear hK K
  refine norm_ (a' := ?_) ?_ ?_
  rotate_left
  · show Act.put _ (some 16) _ = _
    simp only [Act.put, List.setIfInBounds_toArray, List.set_cons_zero, List.set_cons_succ, i64_w, i32_w]
    rfl
  refine pure_ (i := 8) (N := some 2) (v := ?_) (a' := ?_) #[true, true, true, true, false, true, true, false, true, false] rfl rfl (by kernel_rfl) (fun _ _ _ h => h) (Or.inl ⟨by rfl, ?_⟩) ?_ ?_
  rotate_left
  · intro w'
    go_simp
    with_reducible rfl
  rotate_left
  · simp only [Act.put, List.setIfInBounds_toArray, List.set_cons_zero, List.set_cons_succ, i64_w, i32_w]
    rfl
  refine one_ (i := 4) (N := some 17) #[true, true, true, true, true, true, true, false, true, false] rfl rfl (by kernel_rfl) (by decide) (fun K hK => ?_)
  have q3 := R3.out.run
  refine value_ (w1 := ?_) (v := ?_) (by rfl) rfl ?_ ?_
  rotate_left 2
  · go_simp
    constructor
    · rfl
    · rfl
  refine hK.out _ _ hHeld (fun hHeld => ?_)
  clear hK K
  refine norm_ (a' := ?_) ?_ ?_
  rotate_left
  · show Act.put _ (some 17) _ = _
    simp only [Act.put, List.setIfInBounds_toArray, List.set_cons_zero, List.set_cons_succ, i64_w, i32_w]
    rfl
  refine pure_ (i := 7) (N := some 20) (v := ?_) (a' := ?_) #[true, true, true, true, true, true, true, true, true, false] rfl rfl (by kernel_rfl) (fun _ _ _ h => h) (Or.inl ⟨by rfl, ?_⟩) ?_ ?_
  rotate_left
  · intro w'
    go_simp
    with_reducible rfl
  rotate_left
  · simp only [Act.put, List.setIfInBounds_toArray, List.set_cons_zero, List.set_cons_succ, i64_w, i32_w]
    rfl
  refine pure_ (i := 9) (N := some 3) (v := ?_) (a' := ?_) #[true, true, true, true, true, true, true, true, true, true] rfl rfl (by kernel_rfl) (fun _ _ _ h => h) (Or.inl ⟨by rfl, ?_⟩) ?_ ?_
  rotate_left
  · intro w'
    go_simp
    with_reducible rfl
  rotate_left
  · simp only [Act.put, List.setIfInBounds_toArray, List.set_cons_zero, List.set_cons_succ, i64_w, i32_w]
    rfl
  refine done_ (by kernel_rfl) ?_
  go_wp2
  go_ret2
  exact ⟨_, rfl, HOW.out.below HB3.out, HB1.out.trans (HB3.out.mono HB1.out.size)⟩

theorem runseal_short (A0 : Option Addr) (c0 : Nat) (l0 : List Int) (w : World) (hl : l0.length < 4) :
    Calls Try.prog 33 #[.slice A0 l0.length c0] w fun e w' => e = .returned (.tuple #[.slice none 0 0, .bool false]) ∧ RowKit.Below w.heap.size w w' := by
  have hz : decide ((l0.length : Int) < 4) = true := by simp; omega
  go_enter Try.func33, Try.ntmps33
  go_wp2
  go_ret2
  exact ⟨rfl, RowKit.Below.refl _ _⟩

theorem str_toList (xs : List Int) : (strOfNums xs).toList = u8s xs := by
  rw [ByteArray.toList_eq]; rfl

theorem unseals_eq (n : Nat) (l0 : List Int) (hn : l0.length = n + 4) :
    ((strOfNums (ints (Ck.shutIt (u8s (l0.take n))))).toList == (strOfNums l0).toList) = decide (Ck.le4 (Ck.sum ((u8s l0).take (l0.length - 4))) = (u8s l0).drop (l0.length - 4)) := by
  have e1 : l0.length - 4 = n := by omega
  have e2 : u8s (l0.take n) = (u8s l0).take n := List.map_take
  rw [str_toList, str_toList, u8s_ints, e1, e2, Bool.eq_iff_iff, beq_iff_eq, decide_eq_true_eq]
  unfold Ck.shutIt
  constructor
  · intro h
    have h2 := congrArg (List.drop n) h
    have hl : ((u8s l0).take n).length = n := by rw [List.length_take, u8s_len]; omega
    rw [List.drop_append_of_le_length (by omega), List.drop_of_length_le (by omega), List.nil_append] at h2
    exact h2
  · intro h
    rw [h, List.take_append_drop]

end Go.Proofs.Ytmeojlamadcedaa.Given
