/- corporaref17.Encode. Printed by encgen.py of this session.
   Conditions: those of the theorems. -/
import Derived.Test.YtmeojlamadcedaaPoRead
import Derived.Test.YtmeojlamadcedaaPoRefU
namespace Go.Proofs.Ytmeojlamadcedaa
set_option linter.unusedSimpArgs false
set_option linter.unusedVariables false
open Go.RowKit Go.Sort Go.Proofs.YtmeojlamadcedaaW.PrintWords Go.Proofs.YtmeojlamadcedaaW.PrintLast Go.Proofs.YtmeojlamadcedaaW.PrintMore

theorem writeB_calls (v n : Nat) (h0 : v ≠ 0) (hv : v < 18446744073709551616) (hn : n = (Po.delta v).length) (w : World) :
    Calls Try.prog 75 #[.agg #[.int .i64 3, .int .u64 (v : Nat), .int .i64 0]] w fun e w' => ∃ A c, e = .returned (.tuple #[.slice A n c, .bool true]) ∧ Bb w' A n c (Po.delta v) ∧ Below w.heap.size w w' := by
  obtain ⟨q, hq⟩ := Ev.rounds (Po.write_ev v h0 hv)
  refine (D2.corporaref02_Write.calls q 3 (v : Int) 0 _ _ w hq).mono fun e w' hq => ?_
  obtain ⟨u, rfl, hR, hb⟩ := hq
  obtain ⟨A, c, rfl, hB⟩ := Bb.ofR hn hR
  exact ⟨A, c, rfl, hB, hb⟩
theorem refUB_calls (x n : Nat) (hx : x < 18446744073709551616) (hn : n = (Po.uvar x).length) (w : World) :
    Calls Try.prog 76 #[.int .u64 (x : Nat)] w fun e w' => ∃ A c, e = .returned (.slice A n c) ∧ w'.ownsRow w.heap.size 5 1 (.slice A n c) n (vals (Po.uvar x)) ∧ Below w.heap.size w w' := by
  refine (refU_calls x w hx).mono fun e w' hq => ?_
  obtain ⟨v, rfl, ho, hb⟩ := hq
  rw [← hn] at ho
  obtain ⟨A, c, rfl⟩ := own_slice ho
  exact ⟨A, c, rfl, ho, hb⟩
theorem packB_calls {A : Option Addr} {n c : Nat} {b : List Bool} {w : World} (h : Bb w A n c b) (hl : n < 1000000000) (m : Nat) (hm : m = (Po.pack b).length) :
    Calls Try.prog 77 #[.slice A n c] w fun e w' => ∃ A1 c1, e = .returned (.slice A1 m c1) ∧ Bs w' A1 m c1 (Po.pack b) ∧ Below w.heap.size w w' := by
  obtain ⟨q, hq⟩ := Ev.rounds (Po.pack_ev b (by rw [← h.len]; exact hl))
  have h1 := D.corporaref02_Pack.calls q A c b _ w h.C (by rw [← h.len]; exact h.cap) hq
  rw [← h.len] at h1
  refine h1.mono fun e w' hq => ?_
  obtain ⟨v, rfl, hR, hb⟩ := hq
  obtain ⟨A1, c1, rfl, hB⟩ := Bs.ofR hm hR
  exact ⟨A1, c1, rfl, hB, hb⟩
theorem rsealB_calls {A : Option Addr} {n c : Nat} {b : List UInt8} {w : World} (h : Bs w A n c b) (hl : n < 1000000000) (m : Nat) (hm : m = (Ck.shutIt b).length) :
    Calls Try.prog 32 #[.slice A n c] w fun e w' => ∃ A1 c1, e = .returned (.slice A1 m c1) ∧ Bs w' A1 m c1 (Ck.shutIt b) ∧ Below w.heap.size w w' := by
  have hf := Given.rseal_ok (Given.byt_ints b) (by rw [Given.ints_len, ← h.len]; omega)
  rw [Given.u8s_ints] at hf
  have h1 := C.corporaref03_Seal.calls A c (Given.ints b) _ w h.C (by rw [Given.ints_len, ← h.len]; exact h.cap) hf
  rw [Given.ints_len, ← h.len] at h1
  refine h1.mono fun e w' hq => ?_
  obtain ⟨v, rfl, hR, hb⟩ := hq
  obtain ⟨A1, c1, rfl, hB⟩ := Bs.ofR hm hR
  exact ⟨A1, c1, rfl, hB, hb⟩
theorem own_bits {w : World} {base n : Nat} {v : Value} {b : List Bool} (hn : n = b.length) (h : w.ownsRow base 4 1 v n (encs Value.bool b)) : ∃ A c, v = .slice A n c ∧ Bb w A n c b := by
  subst hn
  exact Bb.ofR (e := 4) (ok := fun _ => True) rfl (Kd.R_of_own (enc := Value.bool) (h1 := fun _ => rfl) h (fun _ _ => trivial))
theorem own_Bb {w : World} {base n c : Nat} {A : Option Addr} {b : List Bool} (hn : n = b.length) (h : w.ownsRow base 4 1 (.slice A n c) n (encs Value.bool b)) : Bb w A n c b := by
  obtain ⟨A1, c1, e, hB⟩ := own_bits hn h
  simp only [Value.slice.injEq] at e
  obtain ⟨rfl, -, rfl⟩ := e
  exact hB
theorem Bb.reads {w : World} {A : Option Addr} {n c : Nat} {b : List Bool} (h : Bb w A n c b) : ReadsOf Value.bool false w A n b := by
  have h1 := Kd.reads_of_C (enc := Value.bool) (d := false) (h1 := fun _ => rfl) h.C
  rw [← h.len] at h1
  exact h1
theorem own_Bs {w : World} {base n c : Nat} {A : Option Addr} {b : List UInt8} (hn : n = b.length) (h : w.ownsRow base 5 1 (.slice A n c) n (vals b)) : Bs w A n c b := by
  obtain ⟨A1, c1, e, hB⟩ := Bs.ofOwn hn h
  simp only [Value.slice.injEq] at e
  obtain ⟨rfl, -, rfl⟩ := e
  exact hB
theorem own_R {w : World} {base n : Nat} {v : Value} {b : List UInt8} (h : w.ownsRow base 5 1 v n (vals b)) : (Kd.int .u8).R 5 w base (fun _ => True) v (Given.ints b) :=
  Kd.R_of_own (enc := Value.int .u8) (h1 := fun _ => rfl) (own_vals h) (fun _ _ => trivial)
theorem R_own8 {w : World} {base : Nat} {v : Value} {xs : List Int} (h : (Kd.int .u8).R 5 w base (fun _ => True) v xs) : w.ownsRow base 5 1 v xs.length (nums .u8 xs) := Kd.own_of_R h
theorem reads_C8 {w : World} {A : Option Addr} {n : Nat} {xs : List Int} (h : ReadsInt w .u8 A n xs) : Kd.C (Kd.int .u8) w A n xs := Kd.C_of_reads (enc := Value.int .u8) (d := (0 : Int)) (h1 := fun _ => rfl) h
theorem grown_keep {w w1 : World} {base b0 n n0 : Nat} {v v0 : Value} {xs xs0 : List Value} (h : w.ownsRow base 3 1 v n xs) (ho : w.ownsRow b0 5 1 v0 n0 xs0) (hg : w.grownBy w1 v0.ownBlock) : w1.ownsRow base 3 1 v n xs :=
  Fr.own ((Fr.refl (fun b => v0.ownBlock = some b) w).grown hg (fun b _ hb => hb)) h (own_own h ho (by decide))
theorem grown_any {w w1 : World} {base b0 n n0 : Nat} {e e0 : TypeId} {v v0 : Value} {xs xs0 : List Value} (h : w.ownsRow base e 1 v n xs) (ho : w.ownsRow b0 e0 1 v0 n0 xs0) (hne : e ≠ e0) (hg : w.grownBy w1 v0.ownBlock) : w1.ownsRow base e 1 v n xs :=
  Fr.own ((Fr.refl (fun b => v0.ownBlock = some b) w).grown hg (fun b _ hb => hb)) h (own_own h ho hne)

/-- The bits at which the first i gaps begin. -/
def sts (l : List Int) (i : Nat) : List Int := (List.range i).map fun j => (((Po.bits l j).length : Nat) : Int)
theorem sts_len (l : List Int) (i : Nat) : (sts l i).length = i := by simp [sts]
theorem sts_snoc (l : List Int) (i : Nat) : sts l (i + 1) = sts l i ++ [(((Po.bits l i).length : Nat) : Int)] := by
  unfold sts; rw [List.range_succ, List.map_append]; rfl
theorem sts_at (l : List Int) (i j : Nat) (h : j < i) : (nums .i64 (sts l i))[j]? = some (.int .i64 ((Po.bits l j).length : Nat)) := by
  unfold nums sts
  rw [List.getElem?_map, List.getElem?_map, List.getElem?_range h]; rfl

/-- The cells that the second loop reads. -/
def Sq (w' : World) (ad : Addr) (sg i j : Nat) (pa pb : Int) (qa qb : Nat) : Prop :=
  w'.cell? (ad.add i) = some (.int .i64 pa) ∧ w'.cell? (ad.add j) = some (.int .i64 pb) ∧ w'.cell? ⟨sg, i, none⟩ = some (.int .i64 (qa : Nat)) ∧ w'.cell? ⟨sg, j, none⟩ = some (.int .i64 (qb : Nat))

set_option maxHeartbeats 2000000 in
set_option maxRecDepth 100000 in
theorem refenc_calls (A : Option Addr) (c : Nat) (l : List Int) (w : World) (hC : Kd.C (Kd.int .i64) w A l.length l) (hv : Po.Valid l) (hlen : l.length ≤ 4096) (en : Nat) (hen : en = (Po.Enc l).length) :
    Calls Try.prog 39 #[.slice A l.length c] w fun e w' => ∃ A1 c1, e = .returned (.slice A1 en c1) ∧ Bs w' A1 en c1 (Po.Enc l) ∧ Below w.heap.size w w' := by
  have HV := Lib.hid hv
  have HLEN := Lib.hid hlen
  have HEN := Lib.hid hen
  have HRD : Hid (∀ W, Below w.heap.size w W → ReadsInt W .i64 A l.length l) := Lib.hid (fun W hW => Kd.reads_of_C (enc := Value.int .i64) (d := (0 : Int)) (h1 := fun _ => rfl) (Kd.C_below hC hW))
  clear hC hv hlen hen
  go_enter Try.func39, Try.ntmps39
  go_wp2
  go_loopg [3, 4, 5, 14] l.length (fun kx s3 s4 s5 s14 wr => ∃ (i m1 : Nat) (W : World), W = wr ∧ s14 = .int .i64 i ∧ s5 = .int .i64 (Po.bef l i) ∧ i ≤ l.length ∧ l.length - i ≤ kx ∧ m1 = (Po.bits l i).length ∧ wr.ownsRow w.heap.size 4 1 s3 m1 (encs Value.bool (Po.bits l i)) ∧ wr.ownsRow w.heap.size 3 1 s4 i (nums .i64 (sts l i)) ∧ Below w.heap.size w wr)
  case atStart => exact ⟨0, 0, _, rfl, rfl, rfl, Nat.zero_le _, Nat.le_refl _, rfl, World.ownsRow_nil _ _ _ _, World.ownsRow_nil _ _ _ _, Below.refl _ _⟩
  case round =>
    obtain ⟨i, m1, W, rfl, rfl, rfl, hi, hk, hm1, hown3, hown4, hbel⟩ := hrel
    obtain ⟨bA, bC, rfl⟩ := own_slice hown3
    obtain ⟨sA, sC, rfl⟩ := own_slice hown4
    have HO3 := Lib.hid hown3
    have HO4 := Lib.hid hown4
    have HBW := Lib.hid hbel
    have HM1 := Lib.hid hm1
    have HKX := Lib.hid hk
    clear hown3 hown4 hbel hm1 hk
    by_cases hlt : i < l.length
    · have hz : decide ((i : Int) < (l.length : Int)) = true := by simp; omega
      have hi0 : (0 : Int) ≤ (i : Int) := by omega
      have hiI : (i : Int) < (l.length : Int) := by omega
      obtain ⟨ad, had, hc1⟩ := (HRD.out _ HBW.out).2.2 (by omega)
      subst had
      obtain ⟨p, hp⟩ : ∃ p, l.getD i 0 = p := ⟨_, rfl⟩
      have e1 : W.cell? (ad.add i) = some (.int .i64 p) := by rw [← hp]; exact hc1 i hlt
      have hg := Po.gap_le HV.out i hlt
      have hrg := HV.out i hlt
      have hr1 := hrg.1
      have hr2 := hrg.2.1
      obtain ⟨g, hgg⟩ : ∃ g, Po.gap l i = g := ⟨_, rfl⟩
      obtain ⟨q, hq⟩ : ∃ q, Po.bef l i = q := ⟨_, rfl⟩
      rw [hgg, hq, hp] at hg
      rw [hp] at hr1 hr2
      have hqlo : -1 ≤ q := by rw [← hq]; exact Po.bef_ok HV.out i hi
      obtain ⟨dn, hdn⟩ : ∃ d, (Po.delta g).length = d := ⟨_, rfl⟩
      have hdl := Po.delta_len_le g hg.2.1
      have HBL : Hid (m1 ≤ 42 * i) := Lib.hid (by rw [HM1.out]; exact Po.bits_len_le HV.out i hi)
      have H1 : Hid (RowKit.wrap64 (p - q) = (g : Int)) := Lib.hid (wsmall' (by have := hg.2.2; omega) (by omega) (by omega))
      have H2 : Hid (IntKind.u64.wrap (g : Int) = (g : Int)) := Lib.hid (Po.u64w (by have := hg.2.1; omega))
      have H3 : Hid (RowKit.wrap64 ((i : Int) + 1) = ((i + 1 : Nat) : Int)) := Lib.hid (Ev0.w1 (by have := HLEN.out; omega))
      have HWR : Hid (∀ W, Calls Try.prog 75 #[.agg #[.int .i64 3, .int .u64 (g : Nat), .int .i64 0]] W fun e w' => ∃ A c, e = .returned (.tuple #[.slice A dn c, .bool true]) ∧ Bb w' A dn c (Po.delta g) ∧ Below W.heap.size W w') := Lib.hid (fun W => writeB_calls g dn hg.1 (by have := hg.2.1; omega) hdn.symm W)
      have HNL : Hid ((nums .i64 (sts l i)).length = i) := Lib.hid (by rw [nums, List.length_map, sts_len])
      have HO4' : Hid (W.ownsRow w.heap.size 3 1 (.slice sA i sC) (nums .i64 (sts l i)).length (nums .i64 (sts l i))) := Lib.hid (by rw [HNL.out]; exact HO4.out)
      have HMX : Hid (((nums .i64 (sts l i)).length + 1) * 8 ≤ 140737488355328) := Lib.hid (by rw [HNL.out]; have := HLEN.out; omega)
      have HNS : Hid (nums .i64 (sts l i) ++ [.int .i64 (m1 : Nat)] = nums .i64 (sts l (i + 1))) := Lib.hid (by rw [sts_snoc, nums_append, HM1.out]; rfl)
      have HMB : Hid (((Po.bits l i).length + dn) * 1 ≤ 140737488355328) := Lib.hid (by rw [← HM1.out]; have := HBL.out; have := HLEN.out; omega)
      have HBS : Hid (Po.bits l (i + 1) = Po.bits l i ++ Po.delta g) := Lib.hid (by rw [← hgg]; rfl)
      have HO3' : Hid (W.ownsRow w.heap.size 4 1 (.slice bA m1 bC) (Po.bits l i).length (encs Value.bool (Po.bits l i))) := Lib.hid (by rw [← HM1.out]; exact HO3.out)
      have HPB : Hid (Po.bef l (i + 1) = p) := Lib.hid hp
      have HLT := Lib.hid hlt
      rw [hq]
      obtain ⟨Bi, hBi⟩ : ∃ B, Po.bits l i = B := ⟨_, rfl⟩
      obtain ⟨Dg, hDg⟩ : ∃ B, Po.delta g = B := ⟨_, rfl⟩
      rw [hBi] at HMB HBS HO3' HM1
      rw [hDg] at HBS HWR
      clear hp hg hrg hr1 hr2 hgg hq hqlo hdn hdl hlt hi hc1 HO3 HO4 hBi hDg
      generalize nums .i64 (sts l i) = ns at *
      have v1 := H1.out
      have v2 := H2.out
      have v3 := H3.out
      go_wp2_with (first
        | ((with_reducible refine gate_dst (N := 22) rfl ?_); refine print_append (w0 := w) (W := W) w.heap.size rfl (.tmp 18) (.tmp 21) 38 3 (.int .i64 0) 8 rfl (show Try.prog.underlying 38 = some (.slice 3) by kernel_rfl) (by kernel_rfl) rfl (by decide) (.slice sA i sC) ns (.int .i64 (m1 : Nat)) rfl rfl rfl HO4'.out HBW.out HBW.out.size HMX.out ?_
            ; intro v5 w5 hown5 hb5 hgr5 _
            ; have HO5 := Lib.hid hown5; have HB5 := Lib.hid hb5; have HP5 := Lib.hid (grown_any HO3'.out HO4'.out (by decide) hgr5); clear hown5 hb5 hgr5)
        | (go_at_call 75; (with_reducible refine (HWR.out _).mono ?_); rintro e w6 ⟨lA, lc, rfl, hB, hb⟩; have HB6 := Lib.hid (HB5.out.trans (hb.mono HB5.out.size)); have HO6 := Lib.hid (own_later HO5.out hb); have HP6 := Lib.hid (own_later HP5.out hb); have HD6 := Lib.hid hB; clear hB hb)
        | ((with_reducible refine gate_dst (N := 34) rfl ?_); refine print_append_row_of (w0 := w) (W := w6) Value.bool false w.heap.size rfl (.tmp 32) (.tmp 33) 98 4 (.bool false) 1 rfl (show Try.prog.underlying 98 = some (.slice 4) by kernel_rfl) (by kernel_rfl) rfl (by decide) (fun _ => rfl) (.slice bA m1 bC) Bi Dg lA dn lc rfl rfl HP6.out (Bb.reads HD6.out) HB6.out HB6.out.size HMB.out ?_
            ; intro v7 w7 hown7 hb7 hgr7 _
            ; have HO7 := Lib.hid hown7; have HB7 := Lib.hid hb7; have HS7 := Lib.hid (grown_any HO6.out HP6.out (by decide) hgr7); clear hown7 hb7 hgr7))
      go_roundg (l.length - (i + 1))
      case measure => clear v1 v2 v3; have := HKX.out; have := HLT.out; omega
      case rel =>
        clear v1 v2 v3
        have h7 := HO7.out
        have h8 := HS7.out
        rw [HNS.out] at h8
        rw [← HBS.out] at h7
        refine ⟨i + 1, _, _, rfl, by first | exact congrArg (Value.int .i64) H3.out | rfl, by rw [HPB.out], HLT.out, Nat.le_refl _, rfl, h7, ?_, HB7.out⟩
        rw [nums, List.length_map, sts_len] at h8
        exact h8
    · have hz : decide ((i : Int) < (l.length : Int)) = false := by simp; omega
      obtain rfl : i = l.length := by omega
      obtain ⟨B, hB⟩ : ∃ B, Po.bits l l.length = B := ⟨_, rfl⟩
      rw [hB] at HM1 HO3
      have hml : m1 < 1000000 := by have h1 := Po.bits_len_le HV.out l.length (Nat.le_refl _); rw [hB, ← HM1.out] at h1; have := HLEN.out; omega
      obtain ⟨n1, hn1⟩ : ∃ x, (Po.uvar l.length).length = x := ⟨_, rfl⟩
      obtain ⟨n2, hn2⟩ : ∃ x, (Po.uvar m1).length = x := ⟨_, rfl⟩
      obtain ⟨pn, hpn⟩ : ∃ x, (Po.pack B).length = x := ⟨_, rfl⟩
      have hu1 := Po.uvar_len l.length
      have hu2 := Po.uvar_len m1
      have hpl := Po.pack_len B
      rw [← HM1.out, hpn] at hpl
      rw [hn1] at hu1
      rw [hn2] at hu2
      have H1 : Hid (IntKind.u64.wrap (l.length : Int) = (l.length : Int)) := Lib.hid (Po.u64w (by have := HLEN.out; omega))
      have H2 : Hid (IntKind.u64.wrap (m1 : Int) = (m1 : Int)) := Lib.hid (Po.u64w (by omega))
      have HR1 : Hid (∀ W, Calls Try.prog 76 #[.int .u64 (l.length : Nat)] W fun e w' => ∃ A c, e = .returned (.slice A n1 c) ∧ w'.ownsRow W.heap.size 5 1 (.slice A n1 c) n1 (vals (Po.uvar l.length)) ∧ Below W.heap.size W w') := Lib.hid (fun W => refUB_calls l.length n1 (by have := HLEN.out; omega) hn1.symm W)
      have HR2 : Hid (∀ W, Calls Try.prog 76 #[.int .u64 (m1 : Nat)] W fun e w' => ∃ A c, e = .returned (.slice A n2 c) ∧ w'.ownsRow W.heap.size 5 1 (.slice A n2 c) n2 (vals (Po.uvar m1)) ∧ Below W.heap.size W w') := Lib.hid (fun W => refUB_calls m1 n2 (by omega) hn2.symm W)
      have HPK : Hid (∀ W, Bb W bA m1 bC B → Calls Try.prog 77 #[.slice bA m1 bC] W fun e w' => ∃ A1 c1, e = .returned (.slice A1 pn c1) ∧ Bs w' A1 pn c1 (Po.pack B) ∧ Below W.heap.size W w') := Lib.hid (fun W hW => packB_calls hW (by omega) pn hpn.symm)
      obtain ⟨h0, hh0⟩ : ∃ h, (Po.uvar l.length ++ Po.uvar m1) ++ Po.pack B = h := ⟨_, rfl⟩
      have HHD : Hid (hd l = h0) := Lib.hid (by unfold hd; rw [hB, ← HM1.out]; exact hh0)
      obtain ⟨u1, hu1e⟩ : ∃ u, Po.uvar l.length = u := ⟨_, rfl⟩
      obtain ⟨u2, hu2e⟩ : ∃ u, Po.uvar m1 = u := ⟨_, rfl⟩
      obtain ⟨pk, hpke⟩ : ∃ u, Po.pack B = u := ⟨_, rfl⟩
      rw [hu1e, hu2e, hpke] at hh0
      rw [hu1e] at HR1 hn1
      rw [hu2e] at HR2 hn2
      rw [hpke] at HPK hpn
      have HM1X : Hid (((Given.ints u1).length + n2) * 1 ≤ 140737488355328) := Lib.hid (by rw [Given.ints_len, hn1]; omega)
      have HM2X : Hid (((Given.ints (u1 ++ u2)).length + pn) * 1 ≤ 140737488355328) := Lib.hid (by rw [Given.ints_len, List.length_append, hn1, hn2]; omega)
      have HH0 : Hid ((u1 ++ u2) ++ pk = h0 ∧ h0.length ≤ 200000) := Lib.hid ⟨hh0, by rw [← hh0, List.length_append, List.length_append, hn1, hn2, hpn]; omega⟩
      clear hB hml hu1 hu2 hpl hh0 hu1e hu2e hpke hn1 hn2 hpn hi hlt
      have v1 := H1.out
      have v2 := H2.out
      go_wp2_with (first
        | (go_at_call_of 76 (Value.int .u64 (l.length : Nat)); (with_reducible refine (HR1.out _).mono ?_); rintro e w5 ⟨uA, uC, rfl, ho, hb⟩
            ; have HB5 := Lib.hid (HBW.out.trans (hb.mono HBW.out.size)); have HU5 := Lib.hid (own_less ho HBW.out.size); have HS5 := Lib.hid (own_later HO4.out hb); have HBB5 := Lib.hid (own_later HO3.out hb); clear ho hb)
        | (go_at_call 76; (with_reducible refine (HR2.out _).mono ?_); rintro e w6 ⟨vA, vC, rfl, ho, hb⟩
            ; have HB6 := Lib.hid (HB5.out.trans (hb.mono HB5.out.size)); have HU6 := Lib.hid (own_later HU5.out hb); have HS6 := Lib.hid (own_later HS5.out hb); have HBB6 := Lib.hid (own_later HBB5.out hb); have HV6 := Lib.hid (own_reads8 ho); clear ho hb)
        | ((with_reducible refine gate_dst (N := 45) rfl ?_); refine print_append_row (w0 := w) (W := w6) w.heap.size rfl (.tmp 40) (.tmp 44) 22 5 .u8 1 rfl (show Try.prog.underlying 22 = some (.slice 5) by kernel_rfl) (by kernel_rfl) (by decide) (.slice uA n1 uC) (Given.ints u1) (Given.ints u2) vA n2 vC rfl rfl (own_vals HU6.out) HV6.out HB6.out HB6.out.size HM1X.out ?_
            ; intro v7 w7 hown7 hb7 hgr7 _
            ; have HO7 := Lib.hid (show w7.ownsRow w.heap.size 5 1 v7 (Given.ints (u1 ++ u2)).length (nums .u8 (Given.ints (u1 ++ u2))) from (by rw [show Given.ints (u1 ++ u2) = Given.ints u1 ++ Given.ints u2 from List.map_append]; exact hown7))
            ; have HB7 := Lib.hid hb7; have HS7 := Lib.hid (grown_any HS6.out HU6.out (by decide) hgr7); have HBB7 := Lib.hid (own_Bb HM1.out (grown_any HBB6.out HU6.out (by decide) hgr7)); clear hown7 hb7 hgr7
            ; obtain ⟨gA, gC, rfl⟩ := own_slice HO7.out)
        | (go_at_call 77; (with_reducible refine (HPK.out _ HBB7.out).mono ?_); rintro e w8 ⟨kA, kC, rfl, hP, hb⟩
            ; have HB8 := Lib.hid (HB7.out.trans (hb.mono HB7.out.size)); have HO8 := Lib.hid (own_later HO7.out hb); have HS8 := Lib.hid (own_later HS7.out hb); have HK8 := Lib.hid hP.rds; clear hP hb)
        | ((with_reducible refine gate_dst (N := 49) rfl ?_); refine print_append_row (w0 := w) (W := w8) w.heap.size rfl (.tmp 46) (.tmp 48) 22 5 .u8 1 rfl (show Try.prog.underlying 22 = some (.slice 5) by kernel_rfl) (by kernel_rfl) (by decide) (.slice gA (Given.ints (u1 ++ u2)).length gC) (Given.ints (u1 ++ u2)) (Given.ints pk) kA pn kC rfl rfl HO8.out HK8.out HB8.out HB8.out.size HM2X.out ?_
            ; intro v9 w9 hown9 hb9 hgr9 _
            ; have HO9 := Lib.hid hown9; have HB9 := Lib.hid hb9; have HS9 := Lib.hid (grown_any HS8.out HO8.out (by decide) hgr9); clear hown9 hb9 hgr9))
      have HST : Hid (w9.ownsRow w.heap.size 5 1 v9 h0.length (vals h0)) := Lib.hid (by
        have h := HO9.out
        rw [show Given.ints (u1 ++ u2) ++ Given.ints pk = Given.ints ((u1 ++ u2) ++ pk) from List.map_append.symm, HH0.out.1] at h
        exact vals_own rfl h)
      have HH5 : Hid (h0.length ≤ 200000 ∧ hd l = h0) := Lib.hid ⟨HH0.out.2, HHD.out⟩
      clear v1 v2 HH0 HHD HO9 HO8 HK8 HO7 HBB7 HU6 HV6 HS6 HBB6 HU5 HS5 HBB5 HR1 HR2 HPK HM1X HM2X HO3 HM1 HS7 HS8 HO4 HKX H1 H2
      go_loopg [10, 11] 300 (fun kx s10 s11 wr => ∃ (k1 m : Nat) (bs : List UInt8) (W : World), W = wr ∧ s11 = .int .i64 ((16 * (k1 + 1) : Nat) : Int) ∧ k1 ≤ 300 ∧ 300 - k1 ≤ kx ∧ (16 * k1 < l.length ∨ k1 = 0) ∧ bs = h0 ++ Po.entries l k1 ∧ m = bs.length ∧ wr.ownsRow w.heap.size 5 1 s10 m (vals bs) ∧ wr.ownsRow w.heap.size 3 1 (.slice sA l.length sC) l.length (nums .i64 (sts l l.length)) ∧ Below w.heap.size w wr)
      case atStart => exact ⟨0, _, h0, _, rfl, rfl, by omega, by omega, .inr rfl, by rw [Po.entries, List.append_nil], rfl, HST.out, HS9.out, HB9.out⟩
      case round =>
      obtain ⟨k1, m, bs, W2, rfl, rfl, hk3, hkx, hkc, hbs, hm, hown, hst, hbel⟩ := hrel
      obtain ⟨oA, oC, rfl⟩ := own_slice hown
      clear HB9 HS9 HST HBW
      rename_i W9 _
      have HOWN := Lib.hid hown
      have HSTW := Lib.hid hst
      have HBW := Lib.hid hbel
      have HBS := Lib.hid hbs
      have HM := Lib.hid hm
      have HKX := Lib.hid hkx
      have HENT : Hid (bs.length < 300000) := Lib.hid (by
        have h1 := Po.entries_len l k1
        have h2 := HH5.out.1
        have h3 := congrArg List.length hbs
        rw [List.length_append] at h3; omega)
      clear hown hst hbel hbs hm hkx
      obtain ⟨i, hi⟩ : ∃ i, 16 * (k1 + 1) = i := ⟨_, rfl⟩
      rw [hi]
      by_cases hlt : i < l.length
      · have hz : decide ((i : Int) < (l.length : Int)) = true := by simp; omega
        obtain ⟨j, hj⟩ : ∃ j, 16 * k1 = j := ⟨_, rfl⟩
        obtain ⟨d1, hd1, hd1n, hd1s⟩ := entry_small HV.out k1 (by rw [hi]; exact hlt)
        have hmono := Po.bits_len_mono l (16 * k1) (16 * (k1 + 1)) (by omega)
        have hmono2 := Po.bits_len_mono l (16 * (k1 + 1)) l.length (by omega)
        have hbsz := Po.bits_len_le HV.out l.length (Nat.le_refl _)
        obtain ⟨qa, hqa⟩ : ∃ q, (Po.bits l (16 * (k1 + 1))).length = q := ⟨_, rfl⟩
        obtain ⟨qb, hqb⟩ : ∃ q, (Po.bits l (16 * k1)).length = q := ⟨_, rfl⟩
        obtain ⟨d2, hd2⟩ : ∃ d, qa - qb = d := ⟨_, rfl⟩
        have HENY : Hid (Po.entry l k1 = Po.uvar d1 ++ Po.uvar d2) := Lib.hid (by unfold Po.entry; rw [hd1n, hqa, hqb, hd2])
        obtain ⟨pa, hpa⟩ : ∃ p, l.getD (16 * (k1 + 1)) 0 = p := ⟨_, rfl⟩
        obtain ⟨pb, hpb⟩ : ∃ p, l.getD (16 * k1) 0 = p := ⟨_, rfl⟩
        rw [hqa, hqb] at hmono
        rw [hqa] at hmono2
        rw [hpa, hpb] at hd1
        have hln := HLEN.out
        have X1 : Hid (RowKit.wrap64 ((i : Int) - 16) = (j : Int)) := Lib.hid (wsmall' (by omega) (by omega) (by omega))
        have X2 : Hid (RowKit.wrap64 (pa - pb) = (d1 : Int)) := Lib.hid (wsmall' hd1 (by omega) (by omega))
        have X3 : Hid (IntKind.u64.wrap (d1 : Int) = (d1 : Int)) := Lib.hid (Po.u64w (by omega))
        have X4 : Hid (RowKit.wrap64 ((qa : Int) - (qb : Int)) = (d2 : Int)) := Lib.hid (wsmall' (by omega) (by omega) (by omega))
        have X5 : Hid (IntKind.u64.wrap (d2 : Int) = (d2 : Int)) := Lib.hid (Po.u64w (by omega))
        have X6 : Hid (RowKit.wrap64 ((i : Int) + 16) = ((16 * (k1 + 1 + 1) : Nat) : Int)) := Lib.hid (wsmall' (by omega) (by omega) (by omega))
        obtain ⟨u1, hu1⟩ : ∃ x, (Po.uvar d1).length = x := ⟨_, rfl⟩
        obtain ⟨u2, hu2⟩ : ∃ x, (Po.uvar d2).length = x := ⟨_, rfl⟩
        have hul1 := Po.uvar_len d1
        have hul2 := Po.uvar_len d2
        have HC1 : Hid (Calls Try.prog 76 #[.int .u64 (d1 : Nat)] W2.drew fun e w' => ∃ A c, e = .returned (.slice A u1 c) ∧ w'.ownsRow W2.drew.heap.size 5 1 (.slice A u1 c) u1 (vals (Po.uvar d1)) ∧ Below W2.drew.heap.size W2.drew w') := Lib.hid (refUB_calls d1 u1 (by omega) hu1.symm W2.drew)
        have HC2 : Hid (∀ W, Calls Try.prog 76 #[.int .u64 (d2 : Nat)] W fun e w' => ∃ A c, e = .returned (.slice A u2 c) ∧ w'.ownsRow W.heap.size 5 1 (.slice A u2 c) u2 (vals (Po.uvar d2)) ∧ Below W.heap.size W w') := Lib.hid (fun W => refUB_calls d2 u2 (by omega) hu2.symm W)
        obtain ⟨m4, hm4⟩ : ∃ x, (Given.ints bs ++ Given.ints (Po.uvar d1)).length = x := ⟨_, rfl⟩
        have HM4 := Lib.hid hm4
        have HM1 : Hid (((Given.ints bs).length + u1) * 1 ≤ 140737488355328) := Lib.hid (by rw [Given.ints_len]; have := HENT.out; omega)
        have HM2 : Hid (((Given.ints bs ++ Given.ints (Po.uvar d1)).length + u2) * 1 ≤ 140737488355328) := Lib.hid (by rw [List.length_append, Given.ints_len, Given.ints_len]; have := HENT.out; omega)
        obtain ⟨ad, had, -⟩ := (HRD.out _ HBW.out).2.2 (by omega)
        subst had
        obtain ⟨sg, sc', e, -⟩ := own_some' HSTW.out (by omega)
        simp only [Value.slice.injEq] at e
        obtain ⟨rfl, -, rfl⟩ := e
        have HSQ : Hid (∀ W', Below w.heap.size w W' → W'.ownsRow w.heap.size 3 1 (.slice (some ⟨sg, 0, none⟩) l.length sC) l.length (nums .i64 (sts l l.length)) → Sq W' ad sg i j pa pb qa qb) := Lib.hid (fun W' h1 h2 => by
          obtain ⟨ad', e', hc⟩ := (HRD.out _ h1).2.2 (by omega)
          obtain rfl := Option.some.inj e'
          refine ⟨?_, ?_, ?_, ?_⟩
          · rw [hc i hlt, ← hi, hpa]
          · rw [hc j (by omega), ← hj, hpb]
          · rw [h2.cellAt i (by omega), sts_at l l.length i hlt, ← hi, hqa]
          · rw [h2.cellAt j (by omega), sts_at l l.length j (by omega), ← hj, hqb])
        have HNX : Hid (Given.ints bs ++ Given.ints (Po.uvar d1) ++ Given.ints (Po.uvar d2) = Given.ints (h0 ++ Po.entries l (k1 + 1))) := Lib.hid (by
          rw [Po.entries, HENY.out, ← List.append_assoc, ← HBS.out, show Given.ints (bs ++ (Po.uvar d1 ++ Po.uvar d2)) = Given.ints bs ++ Given.ints (Po.uvar d1 ++ Po.uvar d2) from List.map_append, show Given.ints (Po.uvar d1 ++ Po.uvar d2) = Given.ints (Po.uvar d1) ++ Given.ints (Po.uvar d2) from List.map_append, List.append_assoc])
        have HNXT : Hid (16 * (k1 + 1) < l.length ∧ k1 + 1 ≤ 300) := Lib.hid ⟨by rw [hi]; exact hlt, by omega⟩
        have hi0 : (0 : Int) ≤ (i : Int) := by omega
        have hj0 : (0 : Int) ≤ (j : Int) := by omega
        have hiI : (i : Int) < (l.length : Int) := by omega
        have hjI : (j : Int) < (l.length : Int) := by omega
        clear hm4 hul1 hul2 hu1 hu2 hln hd1 hd1n hd1s hmono hmono2 hbsz hqa hqb hd2 hpa hpb hi hj hlt hkc hk3
        have x1 := X1.out
        have x2 := X2.out
        have x3 := X3.out
        have x4 := X4.out
        have x5 := X5.out
        have x6 := X6.out
        go_wp2
        refine start_ (n := 28) (S := fun w' => Sq w' ad sg i j pa pb qa qb) (ds := []) #[false, false, false, false, false, false, false, false, false, false, false, false, false, false, false, false, false, false, false, false, false, false, false, false, false, false, false, false] (by kernel_rfl) rfl rfl (HSQ.out _ HBW.out.drew (own_later HSTW.out (Below.refl _ W2).drew)) (fun hHeld => ?_)
        refine pure_ (i := 0) (N := some 56) (v := ?_) (a' := ?_) #[true, false, false, false, false, false, false, false, false, false, false, false, false, false, false, false, false, false, false, false, false, false, false, false, false, false, false, false] rfl rfl (by kernel_rfl) (fun _ _ _ h => h) (Or.inl ⟨by rfl, ?_⟩) ?_ ?_
        rotate_left
        · intro w'
          go_simp
          with_reducible rfl
        rotate_left
        · simp only [Act.put, List.setIfInBounds_toArray, List.set_cons_zero, List.set_cons_succ, i64_w, i32_w]
          rfl
        refine pure_ (i := 1) (N := some 57) (v := ?_) (a' := ?_) #[true, true, false, false, false, false, false, false, false, false, false, false, false, false, false, false, false, false, false, false, false, false, false, false, false, false, false, false] rfl rfl (by kernel_rfl) (fun _ _ _ h => h) (Or.inl ⟨by rfl, ?_⟩) ?_ ?_
        rotate_left
        · intro w'
          go_simp
          with_reducible rfl
        rotate_left
        · simp only [Act.put, List.setIfInBounds_toArray, List.set_cons_zero, List.set_cons_succ, i64_w, i32_w]
          rfl
        refine pure_ (i := 2) (N := some 58) (v := ?_) (a' := ?_) #[true, true, true, false, false, false, false, false, false, false, false, false, false, false, false, false, false, false, false, false, false, false, false, false, false, false, false, false] rfl rfl (by kernel_rfl) (fun _ _ _ h => h) (Or.inl ⟨by rfl, ?_⟩) ?_ ?_
        rotate_left
        · intro w'
          go_simp
          with_reducible rfl
        rotate_left
        · simp only [Act.put, List.setIfInBounds_toArray, List.set_cons_zero, List.set_cons_succ, i64_w, i32_w]
          rfl
        refine pure_ (i := 3) (N := some 59) (v := ?_) (a' := ?_) #[true, true, true, true, false, false, false, false, false, false, false, false, false, false, false, false, false, false, false, false, false, false, false, false, false, false, false, false] rfl rfl (by kernel_rfl) (fun _ _ _ h => h) (Or.inl ⟨by rfl, ?_⟩) ?_ ?_
        rotate_left
        · intro w'
          go_simp
          with_reducible rfl
        rotate_left
        · simp only [Act.put, List.setIfInBounds_toArray, List.set_cons_zero, List.set_cons_succ, i64_w, i32_w]
          rfl
        refine take_ (i := 4) (N := some 60) (v := ?_) (a' := ?_) #[true, true, true, true, true, false, false, false, false, false, false, false, false, false, false, false, false, false, false, false, false, false, false, false, false, false, false, false] rfl rfl (by kernel_rfl) (fun _ _ _ h => h) (Or.inl ⟨by rfl, ?_⟩) hHeld ?_ ?_
        rotate_left
        · rintro w' ⟨s0, s1, s2, s3⟩
          go_simp
          with_reducible rfl
        rotate_left
        · simp only [Act.put, List.setIfInBounds_toArray, List.set_cons_zero, List.set_cons_succ, i64_w, i32_w]
          rfl
        refine pure_ (i := 5) (N := some 61) (v := ?_) (a' := ?_) #[true, true, true, true, true, true, false, false, false, false, false, false, false, false, false, false, false, false, false, false, false, false, false, false, false, false, false, false] rfl rfl (by kernel_rfl) (fun _ _ _ h => h) (Or.inl ⟨by rfl, ?_⟩) ?_ ?_
        rotate_left
        · intro w'
          go_simp
          with_reducible rfl
        rotate_left
        · simp only [Act.put, List.setIfInBounds_toArray, List.set_cons_zero, List.set_cons_succ, i64_w, i32_w]
          rfl
        refine pure_ (i := 6) (N := some 62) (v := ?_) (a' := ?_) #[true, true, true, true, true, true, true, false, false, false, false, false, false, false, false, false, false, false, false, false, false, false, false, false, false, false, false, false] rfl rfl (by kernel_rfl) (fun _ _ _ h => h) (Or.inl ⟨by rfl, ?_⟩) ?_ ?_
        rotate_left
        · intro w'
          go_simp
          with_reducible rfl
        rotate_left
        · simp only [Act.put, List.setIfInBounds_toArray, List.set_cons_zero, List.set_cons_succ, i64_w, i32_w]
          rfl
        refine pure_ (i := 7) (N := some 63) (v := ?_) (a' := ?_) #[true, true, true, true, true, true, true, true, false, false, false, false, false, false, false, false, false, false, false, false, false, false, false, false, false, false, false, false] rfl rfl (by kernel_rfl) (fun _ _ _ h => h) (Or.inl ⟨by rfl, ?_⟩) ?_ ?_
        rotate_left
        · intro w'
          go_simp
          with_reducible rfl
        rotate_left
        · simp only [Act.put, List.setIfInBounds_toArray, List.set_cons_zero, List.set_cons_succ, i64_w, i32_w]
          rfl
        refine pure_ (i := 8) (N := some 64) (v := ?_) (a' := ?_) #[true, true, true, true, true, true, true, true, true, false, false, false, false, false, false, false, false, false, false, false, false, false, false, false, false, false, false, false] rfl rfl (by kernel_rfl) (fun _ _ _ h => h) (Or.inl ⟨by rfl, ?_⟩) ?_ ?_
        rotate_left
        · intro w'
          go_simp
          with_reducible rfl
        rotate_left
        · simp only [Act.put, List.setIfInBounds_toArray, List.set_cons_zero, List.set_cons_succ, i64_w, i32_w]
          rfl
        refine take_ (i := 9) (N := some 65) (v := ?_) (a' := ?_) #[true, true, true, true, true, true, true, true, true, true, false, false, false, false, false, false, false, false, false, false, false, false, false, false, false, false, false, false] rfl rfl (by kernel_rfl) (fun _ _ _ h => h) (Or.inl ⟨by rfl, ?_⟩) hHeld ?_ ?_
        rotate_left
        · rintro w' ⟨s0, s1, s2, s3⟩
          go_simp
          with_reducible rfl
        rotate_left
        · simp only [Act.put, List.setIfInBounds_toArray, List.set_cons_zero, List.set_cons_succ, i64_w, i32_w]
          rfl
        refine pure_ (i := 10) (N := some 66) (v := ?_) (a' := ?_) #[true, true, true, true, true, true, true, true, true, true, true, false, false, false, false, false, false, false, false, false, false, false, false, false, false, false, false, false] rfl rfl (by kernel_rfl) (fun _ _ _ h => h) (Or.inl ⟨by rfl, ?_⟩) ?_ ?_
        rotate_left
        · intro w'
          go_simp
          with_reducible rfl
        rotate_left
        · simp only [Act.put, List.setIfInBounds_toArray, List.set_cons_zero, List.set_cons_succ, i64_w, i32_w]
          rfl
        refine pure_ (i := 11) (N := some 67) (v := ?_) (a' := ?_) #[true, true, true, true, true, true, true, true, true, true, true, true, false, false, false, false, false, false, false, false, false, false, false, false, false, false, false, false] rfl rfl (by kernel_rfl) (fun _ _ _ h => h) (Or.inl ⟨by rfl, ?_⟩) ?_ ?_
        rotate_left
        · intro w'
          go_simp
          with_reducible rfl
        rotate_left
        · simp only [Act.put, List.setIfInBounds_toArray, List.set_cons_zero, List.set_cons_succ, i64_w, i32_w]
          rfl
        refine pure_ (i := 14) (N := some 70) (v := ?_) (a' := ?_) #[true, true, true, true, true, true, true, true, true, true, true, true, false, false, true, false, false, false, false, false, false, false, false, false, false, false, false, false] rfl rfl (by kernel_rfl) (fun _ _ _ h => h) (Or.inl ⟨by rfl, ?_⟩) ?_ ?_
        rotate_left
        · intro w'
          go_simp
          with_reducible rfl
        rotate_left
        · simp only [Act.put, List.setIfInBounds_toArray, List.set_cons_zero, List.set_cons_succ, i64_w, i32_w]
          rfl
        refine pure_ (i := 15) (N := some 71) (v := ?_) (a' := ?_) #[true, true, true, true, true, true, true, true, true, true, true, true, false, false, true, true, false, false, false, false, false, false, false, false, false, false, false, false] rfl rfl (by kernel_rfl) (fun _ _ _ h => h) (Or.inl ⟨by rfl, ?_⟩) ?_ ?_
        rotate_left
        · intro w'
          go_simp
          with_reducible rfl
        rotate_left
        · simp only [Act.put, List.setIfInBounds_toArray, List.set_cons_zero, List.set_cons_succ, i64_w, i32_w]
          rfl
        refine pure_ (i := 16) (N := some 72) (v := ?_) (a' := ?_) #[true, true, true, true, true, true, true, true, true, true, true, true, false, false, true, true, true, false, false, false, false, false, false, false, false, false, false, false] rfl rfl (by kernel_rfl) (fun _ _ _ h => h) (Or.inl ⟨by rfl, ?_⟩) ?_ ?_
        rotate_left
        · intro w'
          go_simp
          with_reducible rfl
        rotate_left
        · simp only [Act.put, List.setIfInBounds_toArray, List.set_cons_zero, List.set_cons_succ, i64_w, i32_w]
          rfl
        refine take_ (i := 17) (N := some 73) (v := ?_) (a' := ?_) #[true, true, true, true, true, true, true, true, true, true, true, true, false, false, true, true, true, true, false, false, false, false, false, false, false, false, false, false] rfl rfl (by kernel_rfl) (fun _ _ _ h => h) (Or.inl ⟨by rfl, ?_⟩) hHeld ?_ ?_
        rotate_left
        · rintro w' ⟨s0, s1, s2, s3⟩
          go_simp
          with_reducible rfl
        rotate_left
        · simp only [Act.put, List.setIfInBounds_toArray, List.set_cons_zero, List.set_cons_succ, i64_w, i32_w]
          rfl
        refine pure_ (i := 18) (N := some 74) (v := ?_) (a' := ?_) #[true, true, true, true, true, true, true, true, true, true, true, true, false, false, true, true, true, true, true, false, false, false, false, false, false, false, false, false] rfl rfl (by kernel_rfl) (fun _ _ _ h => h) (Or.inl ⟨by rfl, ?_⟩) ?_ ?_
        rotate_left
        · intro w'
          go_simp
          with_reducible rfl
        rotate_left
        · simp only [Act.put, List.setIfInBounds_toArray, List.set_cons_zero, List.set_cons_succ, i64_w, i32_w]
          rfl
        refine pure_ (i := 19) (N := some 75) (v := ?_) (a' := ?_) #[true, true, true, true, true, true, true, true, true, true, true, true, false, false, true, true, true, true, true, true, false, false, false, false, false, false, false, false] rfl rfl (by kernel_rfl) (fun _ _ _ h => h) (Or.inl ⟨by rfl, ?_⟩) ?_ ?_
        rotate_left
        · intro w'
          go_simp
          with_reducible rfl
        rotate_left
        · simp only [Act.put, List.setIfInBounds_toArray, List.set_cons_zero, List.set_cons_succ, i64_w, i32_w]
          rfl
        refine pure_ (i := 20) (N := some 76) (v := ?_) (a' := ?_) #[true, true, true, true, true, true, true, true, true, true, true, true, false, false, true, true, true, true, true, true, true, false, false, false, false, false, false, false] rfl rfl (by kernel_rfl) (fun _ _ _ h => h) (Or.inl ⟨by rfl, ?_⟩) ?_ ?_
        rotate_left
        · intro w'
          go_simp
          with_reducible rfl
        rotate_left
        · simp only [Act.put, List.setIfInBounds_toArray, List.set_cons_zero, List.set_cons_succ, i64_w, i32_w]
          rfl
        refine pure_ (i := 21) (N := some 77) (v := ?_) (a' := ?_) #[true, true, true, true, true, true, true, true, true, true, true, true, false, false, true, true, true, true, true, true, true, true, false, false, false, false, false, false] rfl rfl (by kernel_rfl) (fun _ _ _ h => h) (Or.inl ⟨by rfl, ?_⟩) ?_ ?_
        rotate_left
        · intro w'
          go_simp
          with_reducible rfl
        rotate_left
        · simp only [Act.put, List.setIfInBounds_toArray, List.set_cons_zero, List.set_cons_succ, i64_w, i32_w]
          rfl
        refine take_ (i := 22) (N := some 78) (v := ?_) (a' := ?_) #[true, true, true, true, true, true, true, true, true, true, true, true, false, false, true, true, true, true, true, true, true, true, true, false, false, false, false, false] rfl rfl (by kernel_rfl) (fun _ _ _ h => h) (Or.inl ⟨by rfl, ?_⟩) hHeld ?_ ?_
        rotate_left
        · rintro w' ⟨s0, s1, s2, s3⟩
          go_simp
          with_reducible rfl
        rotate_left
        · simp only [Act.put, List.setIfInBounds_toArray, List.set_cons_zero, List.set_cons_succ, i64_w, i32_w]
          rfl
        refine pure_ (i := 23) (N := some 79) (v := ?_) (a' := ?_) #[true, true, true, true, true, true, true, true, true, true, true, true, false, false, true, true, true, true, true, true, true, true, true, true, false, false, false, false] rfl rfl (by kernel_rfl) (fun _ _ _ h => h) (Or.inl ⟨by rfl, ?_⟩) ?_ ?_
        rotate_left
        · intro w'
          go_simp
          with_reducible rfl
        rotate_left
        · simp only [Act.put, List.setIfInBounds_toArray, List.set_cons_zero, List.set_cons_succ, i64_w, i32_w]
          rfl
        refine pure_ (i := 24) (N := some 80) (v := ?_) (a' := ?_) #[true, true, true, true, true, true, true, true, true, true, true, true, false, false, true, true, true, true, true, true, true, true, true, true, true, false, false, false] rfl rfl (by kernel_rfl) (fun _ _ _ h => h) (Or.inl ⟨by rfl, ?_⟩) ?_ ?_
        rotate_left
        · intro w'
          go_simp
          with_reducible rfl
        rotate_left
        · simp only [Act.put, List.setIfInBounds_toArray, List.set_cons_zero, List.set_cons_succ, i64_w, i32_w]
          rfl
        refine one_ (i := 12) (N := some 68) #[true, true, true, true, true, true, true, true, true, true, true, true, true, false, true, true, true, true, true, true, true, true, true, true, true, false, false, false] rfl rfl (by kernel_rfl) (by decide) (fun K hK => ?_)
        refine goes_ Try.func76 (by kernel_rfl) rfl #[.int .u64 (d1 : Nat)] (by rfl) rfl rfl (by (try simp only [List.map_toArray, List.map_cons, List.map_nil]); first | done | rfl) ?_
        with_reducible refine (HC1.out).mono ?_
        rintro e w3 ⟨uA, uc, rfl, ho, hb⟩
        have HU3 := Lib.hid (own_reads8 ho)
        have HW3 := Lib.hid (HBW.out.drew.trans (hb.mono HBW.out.drew.size))
        have HST3 := Lib.hid (own_later HSTW.out ((Below.refl _ W2).drew.trans (hb.mono (Nat.le_refl _))))
        have HOB3 := Lib.hid (own_later HOWN.out ((Below.refl _ W2).drew.trans (hb.mono (Nat.le_refl _))))
        clear ho hb
        refine ⟨_, rfl, ?_⟩
        refine hK.out _ _ (HSQ.out _ HW3.out HST3.out) (fun hHeld => ?_)
        clear hK K
        refine norm_ (a' := ?_) ?_ ?_
        rotate_left
        · show Act.put _ (some 68) _ = _
          simp only [Act.put, List.setIfInBounds_toArray, List.set_cons_zero, List.set_cons_succ, i64_w, i32_w]
          rfl
        refine one_ (i := 13) (N := some 69) #[true, true, true, true, true, true, true, true, true, true, true, true, true, true, true, true, true, true, true, true, true, true, true, true, true, false, false, false] rfl rfl (by kernel_rfl) (by decide) (fun K hK => ?_)
        refine Kd.R_append_rows_step (Kd.int .u8) (w0 := w) (W := w3) w.heap.size (by rfl) (.tmp 56) (.tmp 68) 22 5 (.int .u8 0) 1 rfl (show Try.prog.underlying 22 = some (.slice 5) by kernel_rfl) (by kernel_rfl) rfl (by decide) (by decide) (.slice oA m oC) (Given.ints bs) (Given.ints (Po.uvar d1)) uA u1 uc (fun _ => True) (fun _ => False) rfl rfl (own_R HOB3.out) (reads_C8 HU3.out) (fun _ _ h => h) (fun _ h => h.elim) (fun _ _ => trivial) HW3.out HW3.out.size HM1.out ?_
        intro vw4 w4 ho hb hg _
        have HO_w4 := Lib.hid ho
        have HB_w4 := Lib.hid hb
        have HST4 := Lib.hid (grown_keep HST3.out (Kd.own_of_R (own_R HOB3.out)) hg)
        clear ho hb hg
        refine hK.out _ _ (HSQ.out _ HB_w4.out HST4.out) (fun hHeld => ?_)
        clear hK K
        refine norm_ (a' := ?_) ?_ ?_
        rotate_left
        · show Act.put _ (some 69) _ = _
          simp only [Act.put, List.setIfInBounds_toArray, List.set_cons_zero, List.set_cons_succ, i64_w, i32_w]
          rfl
        have HO4 := Lib.hid (R_own8 HO_w4.out)
        obtain ⟨oA4, oC4, e4⟩ : ∃ A c, vw4 = .slice A m4 c := (by obtain ⟨A, c, e⟩ := Kd.R_slice HO_w4.out; exact ⟨A, c, by rw [e, HM4.out]⟩)
        subst e4
        refine one_ (i := 25) (N := some 81) #[true, true, true, true, true, true, true, true, true, true, true, true, true, true, true, true, true, true, true, true, true, true, true, true, true, true, false, false] rfl rfl (by kernel_rfl) (by decide) (fun K hK => ?_)
        refine goes_ Try.func76 (by kernel_rfl) rfl #[.int .u64 (d2 : Nat)] (by rfl) rfl rfl (by (try simp only [List.map_toArray, List.map_cons, List.map_nil]); first | done | rfl) ?_
        with_reducible refine (HC2.out _).mono ?_
        rintro e w5 ⟨vA, vc, rfl, ho, hb⟩
        have HU5 := Lib.hid (own_reads8 ho)
        have HW5 := Lib.hid (HB_w4.out.trans (hb.mono HB_w4.out.size))
        have HST5 := Lib.hid (own_later HST4.out hb)
        have HOB5 := Lib.hid (Kd.R_below HO_w4.out hb)
        clear ho hb
        refine ⟨_, rfl, ?_⟩
        refine hK.out _ _ (HSQ.out _ HW5.out HST5.out) (fun hHeld => ?_)
        clear hK K
        refine norm_ (a' := ?_) ?_ ?_
        rotate_left
        · show Act.put _ (some 81) _ = _
          simp only [Act.put, List.setIfInBounds_toArray, List.set_cons_zero, List.set_cons_succ, i64_w, i32_w]
          rfl
        refine one_ (i := 26) (N := some 82) #[true, true, true, true, true, true, true, true, true, true, true, true, true, true, true, true, true, true, true, true, true, true, true, true, true, true, true, false] rfl rfl (by kernel_rfl) (by decide) (fun K hK => ?_)
        refine Kd.R_append_rows_step (Kd.int .u8) (w0 := w) (W := w5) w.heap.size (by rfl) (.tmp 69) (.tmp 81) 22 5 (.int .u8 0) 1 rfl (show Try.prog.underlying 22 = some (.slice 5) by kernel_rfl) (by kernel_rfl) rfl (by decide) (by decide) (.slice oA4 m4 oC4) (Given.ints bs ++ Given.ints (Po.uvar d1)) (Given.ints (Po.uvar d2)) vA u2 vc (fun _ => True) (fun _ => False) rfl rfl HOB5.out (reads_C8 HU5.out) (fun _ _ h => h) (fun _ h => h.elim) (fun _ _ => trivial) HW5.out HW5.out.size HM2.out ?_
        intro vw6 w6 ho hb hg _
        have HO_w6 := Lib.hid ho
        have HB_w6 := Lib.hid hb
        have HST6 := Lib.hid (grown_keep HST5.out (Kd.own_of_R HOB5.out) hg)
        clear ho hb hg
        refine hK.out _ _ (HSQ.out _ HB_w6.out HST6.out) (fun hHeld => ?_)
        clear hK K
        refine norm_ (a' := ?_) ?_ ?_
        rotate_left
        · show Act.put _ (some 82) _ = _
          simp only [Act.put, List.setIfInBounds_toArray, List.set_cons_zero, List.set_cons_succ, i64_w, i32_w]
          rfl
        refine pure_ (i := 27) (N := some 10) (v := ?_) (a' := ?_) #[true, true, true, true, true, true, true, true, true, true, true, true, true, true, true, true, true, true, true, true, true, true, true, true, true, true, true, true] rfl rfl (by kernel_rfl) (fun _ _ _ h => h) (Or.inl ⟨by rfl, ?_⟩) ?_ ?_
        rotate_left
        · intro w'
          go_simp
          with_reducible rfl
        rotate_left
        · simp only [Act.put, List.setIfInBounds_toArray, List.set_cons_zero, List.set_cons_succ, i64_w, i32_w]
          rfl
        refine done_ (by kernel_rfl) ?_
        go_wp2
        go_roundg (300 - (k1 + 1))
        case measure => clear x1 x2 x3 x4 x5 x6; have := HKX.out; have := HNXT.out.2; omega
        case rel =>
          clear x1 x2 x3 x4 x5 x6
          have h6 := R_own8 HO_w6.out
          rw [HNX.out] at h6
          exact ⟨k1 + 1, _, _, _, rfl, by first | exact congrArg (Value.int .i64) X6.out | rfl, HNXT.out.2, Nat.le_refl _, .inl HNXT.out.1, rfl, rfl, vals_own rfl h6, HST6.out, HB_w6.out⟩
      · have hz : decide ((i : Int) < (l.length : Int)) = false := by simp; omega
        have HPAY : Hid (bs = Po.payload l) := Lib.hid (by
          have h1 : Po.cnt l.length - 1 = k1 := by unfold Po.cnt; omega
          have h2 := HH5.out.2
          unfold hd at h2
          rw [HBS.out, ← h2]
          unfold Po.payload
          rw [h1])
        have hz2 : l.length ≤ i := by omega
        have HBs : Hid (Bs W2 oA m oC bs) := Lib.hid (own_Bs HM.out HOWN.out)
        have HSE : Hid (Calls Try.prog 32 #[.slice oA m oC] W2 fun e w' => ∃ A1 c1, e = .returned (.slice A1 en c1) ∧ Bs w' A1 en c1 (Po.Enc l) ∧ Below W2.heap.size W2 w') := Lib.hid (by
          have h1 := rsealB_calls HBs.out (by rw [HM.out]; have := HENT.out; omega) en (by rw [HEN.out, HPAY.out]; rfl)
          rw [HPAY.out] at h1
          exact h1)
        clear hk3 hkc hi hlt
        go_wp2_with (go_at_call 32; (with_reducible refine HSE.out.mono ?_); rintro e w6 ⟨eA, ec, rfl, hE, hb⟩; have HE6 := Lib.hid hE; have HB6 := Lib.hid (HBW.out.trans (hb.mono HBW.out.size)); clear hE hb)
        go_ret
        exact ⟨eA, ec, rfl, HE6.out, HB6.out⟩
end Go.Proofs.Ytmeojlamadcedaa
