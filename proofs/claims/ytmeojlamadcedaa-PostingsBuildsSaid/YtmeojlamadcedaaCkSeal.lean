/- checksum.Seal and Unseal: a sum's four bytes appended, checked and removed.
   Conditions: those of the theorems. -/
import Derived.Test.YtmeojlamadcedaaCkMat
import Derived.Deep.RegionLawGrows
import Derived.Deep.RegionWith
import Derived.Deep.Onto
import Derived.StillTailTactics
namespace Go.Proofs.Ytmeojlamadcedaa
open Go.RowKit Go.Sort Go.Proofs.YtmeojlamadcedaaW.PrintWords

def cells4 (s : Nat) : Array Value := #[.int .u8 (s % 256 : Nat), .int .u8 (s / 256 % 256 : Nat), .int .u8 (s / 65536 % 256 : Nat), .int .u8 (s / 16777216 : Nat)]

set_option maxHeartbeats 1000000 in
theorem bytesOf_calls (s : Nat) (hs : s < 2 ^ 32) (w : World) :
    Calls Try.prog 67 #[.int .u32 s] w fun e w' => e = .returned (.agg (cells4 s)) ∧ Below w.heap.size w w' := by
  have h0 : (0 : Int) ≤ (s : Int) := by omega
  go_enter Try.func67, Try.ntmps67
  go_wp2
  refine bodyPost_ret (results_cell_row rfl _ _ w.heap.size 83 (cells4 s) (0, 0) _ rfl (blk_new _ _) (show Try.prog.underlying 83 = some (.array 4 5) by kernel_rfl) rfl (show (Try.prog.info? 83).map (·.size) = some 4 by kernel_rfl)) rfl ?_
  exact ⟨rfl, (Below.refl _ w).alloc (Nat.le_refl _) _⟩

theorem list4 (s : Nat) (hs : s < 2 ^ 32) : (cells4 s).toList = (Ck.le4 s).map fun b => Value.int .u8 (b.toNat : Nat) := by
  have e : (UInt8.ofNat (s / 16777216)).toNat = s / 16777216 := by rw [UInt8.toNat_ofNat']; omega
  simp only [cells4, Ck.le4, List.map_cons, List.map_nil, UInt8.toNat_ofNat', e]

/-- A row of bytes as values. -/
def vals (l : List UInt8) : List Value := l.map fun b => Value.int .u8 (b.toNat : Nat)
theorem vals_at {l : List UInt8} {w : World} {ad : Addr} (hc : ∀ i, i < l.length → w.cell? (ad.add i) = some (.int .u8 ((l.getD i 0).toNat : Nat))) :
    ∀ j u, (vals l)[j]? = some u → w.cell? (ad.add j) = some u := fun j u hu => by
  unfold vals at hu
  rw [List.getElem?_map] at hu
  rcases Nat.lt_or_ge j l.length with hj | hj
  · rw [List.getElem?_eq_getElem hj] at hu
    rw [hc j hj, List.getD_eq_getElem?_getD, List.getElem?_eq_getElem hj]
    exact hu
  · rw [List.getElem?_eq_none hj] at hu; cases hu
theorem vals_one (l : List UInt8) : ∀ u ∈ vals l, u.oneCell' = true := by
  intro u hu
  obtain ⟨b, _, rfl⟩ := List.mem_map.mp hu
  rfl

theorem info5 : ∃ i : TypeInfo, Try.prog.info? 5 = some i ∧ i.zero = some (.int .u8 0) ∧ i.size = 1 ∧ i.bytes = 1 := by
  have h : (Try.prog.info? 5).map (fun i => (i.zero, i.size, i.bytes)) = some (some (.int .u8 0), 1, 1) := by kernel_rfl
  obtain ⟨i, hi, he⟩ := Option.map_eq_some_iff.mp h
  simp only [Prod.mk.injEq] at he
  exact ⟨i, hi, he.1, he.2.1, he.2.2⟩

theorem sum_any (A : Option Addr) (cap : Nat) (l : List UInt8) (w : World) (hn : l.length < 1152921504606846976) (hnone : A = none → l = [])
    (hc : ∀ ad, A = some ad → ∀ i, i < l.length → w.cell? (ad.add i) = some (.int .u8 ((l.getD i 0).toNat : Nat))) :
    Calls Try.prog 27 #[.slice A l.length cap] w fun e w' => e = .returned (.int .u32 (Ck.sum l)) ∧ Below w.heap.size w w' := by
  cases A with
  | some ad => exact sum_some ad cap l w hn (hc ad rfl)
  | none => obtain rfl := hnone rfl; exact sum_none cap w

set_option maxHeartbeats 2000000 in
set_option maxRecDepth 100000 in
theorem seal_any (A : Option Addr) (cap : Nat) (l : List UInt8) (w : World) (hn : l.length < 1152921504606846976) (hb : l.length < 140737488351232)
    (hnone : A = none → l = []) (hc : ∀ ad, A = some ad → ∀ i, i < l.length → w.cell? (ad.add i) = some (.int .u8 ((l.getD i 0).toNat : Nat))) (hcap : l.length ≤ cap) :
    Calls Try.prog 30 #[.slice A l.length cap] w fun e w' => (∃ v, e = .returned v ∧ w'.ownsRow w.heap.size 5 1 v (Ck.shutIt l).length (vals (Ck.shutIt l))) ∧ Below w.heap.size w w' := by
  have HC := Lib.hid hc
  have HN := Lib.hid hnone
  clear hc hnone
  have hone : Hid ((cells4 (Ck.sum l)).all (·.oneCell') = true) := Lib.hid (by first | rfl | simp [cells4, Value.oneCell'])
  have hsz : Hid ((Try.prog.info? 83).map (·.size) = some (cells4 (Ck.sum l)).size) := Lib.hid (show (Try.prog.info? 83).map (·.size) = some 4 by kernel_rfl)
  have hl4 := Lib.hid (list4 (Ck.sum l) (Ck.sum_lt l))
  have hsh : Hid (Ck.shutIt l = l ++ Ck.le4 (Ck.sum l)) := Lib.hid (by first | rfl | simp [cells4, Value.oneCell'])
  have hsl := Lib.hid (Ck.sum_lt l)
  generalize hsum : Ck.sum l = sm at *
  go_enter Try.func30, Try.ntmps30
  go_wp2_with (first
    | (go_at_call 27; (with_reducible refine (sum_any A cap l _ hn HN.out HC.out).mono ?_); rw [hsum]; rintro e w1 ⟨rfl, hb1⟩; have HB1 := Lib.hid hb1; clear hb1)
    | (go_at_call 67; (with_reducible refine (bytesOf_calls sm hsl.out _).mono ?_); rintro e w2 ⟨rfl, hb2⟩; have HB2 := Lib.hid hb2; clear hb2)
    | ((with_reducible refine gate_store (t := 83) (p := 3) rfl ?_); refine wpList_store_row rfl 83 (.tmp 3) (.tmp 6) rfl w2.heap.size (cells4 sm) rfl rfl 83 _ (blk_new _ _) hsz.out rfl hone.out ?_
       ; generalize hW3 : World.setRow _ _ _ = W3
       ; have hk3 : W3.heap[w2.heap.size]? = some (.cells (cells4 sm) 83 (0, 0)) := (by rw [← hW3]; exact setRow_heap _ _ _ _ _ _ (blk_new _ _))
       ; have hb3 : Below w.heap.size w W3 := (by rw [← hW3]; exact setRow_below ((HB1.out.trans (HB2.out.mono HB1.out.size)).alloc (Nat.le_trans HB1.out.size HB2.out.size) _) (Nat.le_trans HB1.out.size HB2.out.size) _)
       ; clear hW3; have HK3 := Lib.hid hk3; have HB3 := Lib.hid hb3; clear hk3 hb3; generalize hg : w2.heap.size = g at *))
  obtain ⟨i, hi, hi1, hi2, hi3⟩ := info5
  have hold : ∀ b, A = some b → ∀ j u, (vals l)[j]? = some u → (W3.drew).cell? (b.add j) = some u := fun b e j u hu =>
    (cell_later HB3.out (vals_at (HC.out b e) j u hu) : W3.cell? _ = _)
  have hnew : ∀ j u, (vals (Ck.le4 sm))[j]? = some u → (W3.drew).cell? ((⟨g, 0, none⟩ : Addr).add j) = some u := fun j u hu => by
    rw [Addr.add_mid, Nat.zero_add]
    have h1 : W3.cell? ⟨g, j, none⟩ = (cells4 sm)[j]? := blk_cell HK3.out j
    refine h1.trans ?_
    rw [← Array.getElem?_toList, hl4.out]
    exact hu
  have HOLD := Lib.hid hold
  have HNEW := Lib.hid hnew
  clear hold hnew
  have hv1 : Hid ((vals l).length = l.length * 1) := Lib.hid (by simp [vals])
  have hv2 : Hid ((vals (Ck.le4 sm)).length = 4 * 1) := Lib.hid (by simp [vals, Ck.le4_length])
  have HN0 : Hid (A = none → l.length = 0 ∧ l.length = 0) := Lib.hid (fun h => by rw [HN.out h]; exact ⟨rfl, rfl⟩)
  simp only [Act.put]
  go_still_tail 7, (by kernel_rfl)
  change wpList _ _ _ _ _ W3.drew
  refine wpList_append_grows W3.drew rfl (.tmp 12) (.tmp 13) 22 rfl 5 i (.int .u8 0) 1 1 (show Try.prog.underlying 22 = some (.slice 5) by kernel_rfl) hi hi1 hi2 hi3 rfl (by decide) A l.length l.length (vals l) rfl HN0.out hv1.out HOLD.out ⟨g, 0, none⟩ 4 4 (vals (Ck.le4 sm)) rfl hv2.out HNEW.out (vals_one _) (by omega) (by simp only [maxLen]; omega) (by omega) ?_
  intro v1 w4 hown hgr
  have HOWN := Lib.hid (World.ownsRow.mono hown (show w.heap.size ≤ W3.drew.heap.size from HB3.out.size))
  have HGR := Lib.hid (Below.grown (below_drewN HB3.out 1) hgr HB3.out.size (fun k hk => by cases hk))
  clear hown hgr
  go_wp2
  go_ret
  refine ⟨⟨v1, rfl, ?_⟩, HGR.out⟩
  have h := HOWN.out
  rw [hsh.out, List.length_append, Ck.le4_length, show vals (l ++ Ck.le4 sm) = vals l ++ vals (Ck.le4 sm) from List.map_append]
  exact h

end Go.Proofs.Ytmeojlamadcedaa
