/- corporalaw03.awake: the document's examples hold.
   Conditions: none. -/
import Derived.Test.YtmeojlamadcedaaGivenCk
import Derived.Lib.SlBytesConst
namespace Go.Proofs.Ytmeojlamadcedaa.Given
open Go.RowKit Go.Proofs.YtmeojlamadcedaaW.PrintWords Go.Proofs.YtmeojlamadcedaaW.PrintLast Go.Proofs.YtmeojlamadcedaaW.PrintMore

def nine : List UInt8 := [49, 50, 51, 52, 53, 54, 55, 56, 57]
set_option maxRecDepth 100000 in
theorem sum_nine : Ck.sum nine = 3808858755 := by decide
theorem sum_nil : Ck.sum [] = 0 := by decide
theorem shut_nil : Ck.shutIt [] = [0, 0, 0, 0] := by decide

set_option maxHeartbeats 2000000 in
set_option maxRecDepth 100000 in
theorem awake_true (w : World) : Calls Try.prog 29 #[] w fun e w' => e = .returned (.bool true) ∧ Below w.heap.size w w' := by
  go_enter Try.func29, Try.ntmps29
  have hs1 : ∀ W : World, W.heap[w.heap.size]? = some (.cells (vals nine).toArray 5 (9, 10)) → Calls Try.prog 27 #[.slice (some ⟨w.heap.size, 0, none⟩) 9 9] W fun e w' => e = .returned (.int .u32 3808858755) ∧ Below W.heap.size W w' := fun W hW => by
    have h := sum_some ⟨w.heap.size, 0, none⟩ 9 nine W (by decide) (fun i hi => by
      rw [Addr.add_mid, Nat.zero_add]
      refine (cell_of_row W _ i _ _ _ hW).trans ?_
      rw [← Array.getElem?_toList, List.toList_toArray, vals, List.getElem?_map, List.getD_eq_getElem?_getD, List.getElem?_eq_getElem hi]
      rfl)
    rw [sum_nine] at h
    exact h
  have HS1 : Hid (Calls Try.prog 27 #[.slice (some ⟨w.heap.size, 0, none⟩) 9 9] (w.alloc (.cells #[.int .u8 49, .int .u8 50, .int .u8 51, .int .u8 52, .int .u8 53, .int .u8 54, .int .u8 55, .int .u8 56, .int .u8 57] 5 (9, 10))) fun e w' => e = .returned (.int .u32 3808858755) ∧ Below (w.alloc (.cells #[.int .u8 49, .int .u8 50, .int .u8 51, .int .u8 52, .int .u8 53, .int .u8 54, .int .u8 55, .int .u8 56, .int .u8 57] 5 (9, 10))).heap.size (w.alloc (.cells #[.int .u8 49, .int .u8 50, .int .u8 51, .int .u8 52, .int .u8 53, .int .u8 54, .int .u8 55, .int .u8 56, .int .u8 57] 5 (9, 10))) w') :=
    Lib.hid (hs1 _ (blk_new w (.cells (vals nine).toArray 5 (9, 10))))
  clear hs1
  have hcv := Lib.run_convert_bytes_const (P := Try.prog) w 22 5 #[.int .u8 49, .int .u8 50, .int .u8 51, .int .u8 52, .int .u8 53, .int .u8 54, .int .u8 55, .int .u8 56, .int .u8 57] 9 9 (by kernel_rfl) (by kernel_rfl)
  have hz : Ck.shutIt [] = [0, 0, 0, 0] := shut_nil
  have hs3 : ∀ W : World, Calls Try.prog 30 #[.slice none 0 0] W fun e w' => (∃ v, e = .returned v ∧ ∀ W2 : World, W2.heap = w'.heap → (convert 22 9 v).run Try.prog W2 = .ok (.string { data := #[0, 0, 0, 0] }) W2) ∧ Below W.heap.size W w' := fun W => by
    have h := seal_any none 0 [] W (by decide) (by decide) (fun _ => rfl) (fun ad h => by cases h) (Nat.le_refl _)
    refine h.mono fun e w' hq => ?_
    obtain ⟨⟨v, he, ho⟩, hb⟩ := hq
    refine ⟨⟨v, he, fun W2 hW2 => ?_⟩, hb⟩
    rw [hz] at ho
    have ho2 : W2.ownsRow W.heap.size 5 1 v 4 (nums .u8 [0, 0, 0, 0]) := by
      obtain ⟨h1, h2⟩ := ho
      refine ⟨h1, ?_⟩
      rw [hW2]; exact h2
    exact own_string (P := Try.prog) (src := 22) (dst := 9) (e := 5) (by kernel_rfl) (by kernel_rfl) (by kernel_rfl) ho2
  have HS3 := Lib.hid hs3
  clear hs3
  go_wp2_with (first
    | (go_at_call 27; (with_reducible refine HS1.out.mono ?_); rintro e w1 ⟨rfl, hb1⟩; have HB1 := Lib.hid hb1; clear hb1)
    | (go_at_call 27; (with_reducible refine (sum_none 0 _).mono ?_); rw [sum_nil]; rintro e w2 ⟨rfl, hb2⟩; have HB2 := Lib.hid hb2; clear hb2)
    | (go_at_call 30; (with_reducible refine (HS3.out _).mono ?_); rintro e w3 ⟨⟨v, rfl, hv⟩, hb3⟩; have HB3 := Lib.hid hb3; clear hb3; have hv := hv w3 rfl))
  go_ret
  refine ⟨rfl, ?_⟩
  have h1 : Below w.heap.size w w1 := ((Below.refl _ w).alloc (Nat.le_refl _) _).trans (HB1.out.mono (by simp))
  exact (h1.trans (HB2.out.mono h1.size)).trans (HB3.out.mono (Nat.le_trans h1.size HB2.out.size))

def corporalaw03_awake.f : Option Bool := some true
theorem corporalaw03_awake.calls (r : Bool) (w : World) (h : corporalaw03_awake.f = some r) : Calls Try.prog 29 #[] w fun e w' => e = .returned (.bool r) ∧ Below w.heap.size w w' := by
  obtain rfl := Option.some.inj h
  exact awake_true w

end Go.Proofs.Ytmeojlamadcedaa.Given
