/- corporalaw18.ListsPostings.
   Conditions: those of the theorems. -/
import Derived.Test.YtmeojlamadcedaaPoA
import Derived.Test.YtmeojlamadcedaaLEs
namespace Go.Proofs.Ytmeojlamadcedaa
set_option linter.unusedSimpArgs false
open Go.RowKit Go.Sort Go.Proofs.YtmeojlamadcedaaW.PrintWords Go.Proofs.YtmeojlamadcedaaW.PrintLast Go.Proofs.YtmeojlamadcedaaW.PrintMore

theorem IsList.keep {base : Nat} {w w1 : World} {a : Nat} {gv sv : Value} {l : List Int} {S : Nat → Prop} (h : IsList base w a gv sv l) (hf : Fr S w w1) (h1 : ¬ S a) (h2 : ∀ k, gv.ownBlock = some k → ¬ S k) (h3 : ∀ k, sv.ownBlock = some k → ¬ S k) : IsList base w1 a gv sv l :=
  ⟨h.low, h.valid, h.len, hf.blk h.blk h1, hf.own h.gaps h2, hf.own h.skips h3⟩
/-- A row of numbers that grows does not touch a list. -/
theorem IsList.beside {base b0 n : Nat} {w w1 : World} {a : Nat} {gv sv v : Value} {l : List Int} {xs : List Value} (h : IsList base w a gv sv l) (ho : w.ownsRow b0 3 1 v n xs) (hg : w.grownBy w1 v.ownBlock) : IsList base w1 a gv sv l := by
  have hf : Fr (fun b => v.ownBlock = some b) w w1 := (Fr.refl _ w).grown hg (fun b _ hb => hb)
  exact h.keep hf (own_apart ho h.blk (by decide)) (own_own h.gaps ho (by decide)) (own_own h.skips ho (by decide))
theorem rk_start {l : List Int} (h : Po.Valid l) : Po.rk l 0 = 0 := Po.rk_sorted h 0 0 (Nat.zero_le _) (fun h0 => by omega) (fun h0 => (h 0 h0).1)
theorem own_C {w : World} {base n : Nat} {v : Value} {l : List Int} (hn : n = l.length) (h : w.ownsRow base 3 1 v n (nums .i64 l)) : ∃ A c, v = .slice A l.length c ∧ l.length ≤ c ∧ Kd.C (Kd.int .i64) w A l.length l := by
  subst hn
  exact Kd.R_reads (Kd.R_of_own (enc := Value.int .i64) (h1 := fun _ => rfl) (ok := fun _ => True) h (fun _ _ => trivial))

/-- What the law calls ahead of its loop. -/
structure Pre (w : World) (A0 : Option Addr) (c0 : Nat) (a : List Int) : Prop where
  chk : ∀ W, Below w.heap.size w W → Calls Try.prog 45 #[.slice A0 a.length c0] W fun e w' => e = .returned (.int .i64 (LEv.chk a)) ∧ Below W.heap.size W w'
  bld : LEv.chk a = 0 → ∀ W, Below w.heap.size w W → Calls Try.prog 62 #[.slice A0 a.length c0] W fun e w' => ∃ la gv sv, e = .returned (.tuple #[.pointer (some ⟨la, 0, none⟩), .int .i64 0]) ∧ IsList w.heap.size w' la gv sv a ∧ Below W.heap.size W w'
theorem pre_of {P0_ : Nat → Prop} {A0 : Option Addr} {c0 : Nat} {a : List Int} {w : World} (hs0 : Kd.V (Kd.int .i64) 3 w w.heap.size (fun k_ => P0_ k_) (.slice A0 a.length c0) a) : Pre w A0 c0 a := by
  have hC := (Kd.V_reads' hs0).2
  refine ⟨fun W hW => ?_, fun h0 W hW => ?_⟩
  · obtain ⟨k, hk⟩ := Ev.rounds (LEv.check a)
    refine (L.lists_Check.calls k A0 c0 a _ W (Kd.C_below hC.2 hW) hC.1 hk).mono fun e w' hq => ?_
    obtain ⟨he, ⟨q, rfl⟩⟩ := hq
    exact ⟨he, below_drewN (Below.refl _ _) q⟩
  · refine (build_calls A0 c0 a W (Kd.C_below hC.2 hW) (LEv.chk_zero h0).2.2).mono fun e w' hq => ?_
    obtain ⟨h1, h2⟩ := hq
    rcases h1 with ⟨hne, _⟩ | ⟨_, la, gv, sv, he, hl⟩
    · exact absurd (LEv.err_ok h0) hne
    · exact ⟨la, gv, sv, he, ⟨Nat.le_trans hW.size hl.low, hl.valid, hl.len, hl.blk, own_less hl.gaps hW.size, own_less hl.skips hW.size⟩, h2⟩
/-- What it calls behind its loop. -/
structure Fin_ (w : World) (A0 : Option Addr) (c0 : Nat) (A1 : Option Addr) (c1 : Nat) (a b bt : List Int) : Prop where
  sect : ∀ W, Below w.heap.size w W → Calls Try.prog 54 #[.slice A0 a.length c0, .slice A1 b.length c1] W fun e w' => ∃ M c, e = .returned (.tuple #[.slice M bt.length c, .int .i64 0]) ∧ bt.length ≤ c ∧ Kd.C (Kd.int .i64) w' M bt.length bt ∧ Below W.heap.size W w'
  same : ∀ W L cl M cm, Kd.C (Kd.int .i64) W L bt.length bt → bt.length ≤ cl → Kd.C (Kd.int .i64) W M bt.length bt → bt.length ≤ cm → Calls Try.prog 41 #[.slice L bt.length cl, .slice M bt.length cm] W fun e w' => e = .returned (.bool true) ∧ Below W.heap.size W w'
  awk : ∀ W, Calls Try.prog 47 #[] W fun e w' => e = .returned (.bool true) ∧ Below W.heap.size W w'
theorem fin_of {P0_ P1_ : Nat → Prop} {A0 A1 : Option Addr} {c0 c1 : Nat} {a b : List Int} {w : World} (hs0 : Kd.V (Kd.int .i64) 3 w w.heap.size (fun k_ => P0_ k_) (.slice A0 a.length c0) a) (hs1 : Kd.V (Kd.int .i64) 3 w w.heap.size (fun k_ => P1_ k_) (.slice A1 b.length c1) b)
    (ha : LEv.chk a = 0) (hb : LEv.chk b = 0) : Fin_ w A0 c0 A1 c1 a b (Po.both a b) := by
  have hla : (Po.both a b).length ≤ 4096 := Nat.le_trans (List.length_filter_le _ _) (LEv.chk_zero ha).2.2
  refine ⟨fun W hW => ?_, fun W Lv cl M cm h1 h2 h3 h4 => ?_, fun W => ?_⟩
  · obtain ⟨k, hk⟩ := Ev.rounds (LEv.intersect_ok ha hb)
    refine (L.lists_Intersect.calls k P0_ A0 c0 a P1_ A1 c1 b _ _ W (Kd.V_below hs0 hW) (Kd.V_below hs1 hW) hk).mono fun e w' hq => ?_
    obtain ⟨v, rfl, hR, hbl⟩ := hq
    obtain ⟨M, c, rfl, hc, hC⟩ := Kd.R_reads hR
    exact ⟨M, c, rfl, hc, hC, hbl⟩
  · obtain ⟨k, hk⟩ := Ev.rounds (LEv.same_ok (a := Po.both a b) (b := Po.both a b) rfl (by omega))
    refine (L.corporaref12_SameInts.calls k Lv cl _ M cm _ _ W h1 h2 h3 h4 hk).mono fun e w' hq => ?_
    obtain ⟨he, ⟨q, rfl⟩⟩ := hq
    exact ⟨he, below_drewN (Below.refl _ _) q⟩
  · obtain ⟨k, hk⟩ := Ev.rounds LEv.awake
    exact L.corporalaw18_awake.calls k _ W hk

set_option maxHeartbeats 4000000 in
set_option maxRecDepth 100000 in
theorem lists_main (P0_ P1_ : Nat → Prop) (A0 A1 : Option Addr) (c0 c1 : Nat) (a b : List Int) (w : World)
    (hs0 : Kd.V (Kd.int .i64) 3 w w.heap.size (fun k_ => P0_ k_) (.slice A0 a.length c0) a) (hs1 : Kd.V (Kd.int .i64) 3 w w.heap.size (fun k_ => P1_ k_) (.slice A1 b.length c1) b)
    (lg : Bool) (hlg : LEv.longS [a, b] = lg) (ca cb : Int) (hca : LEv.chk a = ca) (hcb : LEv.chk b = cb) :
    Calls Try.prog 26 #[.slice A0 a.length c0, .slice A1 b.length c1] w fun e w' => e = .returned (.bool true) ∧ Below w.heap.size w w' := by
  have HPA := Lib.hid (pre_of hs0)
  have HPB := Lib.hid (pre_of hs1)
  have HFI : Hid (ca = 0 → cb = 0 → Fin_ w A0 c0 A1 c1 a b (Po.both a b)) := Lib.hid (fun h1 h2 => fin_of hs0 hs1 (hca.trans h1) (hcb.trans h2))
  have HO0 := Aside0.mk (show Kd.V (Kd.int .i64) 3 w w.heap.size (fun k_ => ((P0_ k_ ∨ P1_ k_) ∨ w.heap.size ≤ k_)) (.slice A0 a.length c0) a from Kd.V_mono hs0 (fun k_ hk => .inl (.inl hk)))
  have HO1 := Aside0.mk (show Kd.V (Kd.int .i64) 3 w w.heap.size (fun k_ => ((P0_ k_ ∨ P1_ k_) ∨ w.heap.size ≤ k_)) (.slice A1 b.length c1) b from Kd.V_mono hs1 (fun k_ hk => .inl (.inr hk)))
  obtain ⟨y101, hy101⟩ : ∃ y_ : List (List Int), y_ = [a, b] := ⟨_, rfl⟩
  have HLO : Hid (∀ W A c, Kd.C (Kd.slice 3 (Kd.int .i64)) W A y101.length y101 → y101.length ≤ c → Calls Try.prog 50 #[.slice A y101.length c] W fun e w' => e = .returned (.bool lg) ∧ Below W.heap.size W w') := Lib.hid (fun W A c hC hc => by
    obtain ⟨k, hk⟩ := Ev.rounds (LEv.long y101 (by rw [hy101]; simp))
    rw [show LEv.longS y101 = lg by rw [hy101]; exact hlg] at hk
    refine (L.corporalaw18_long.calls k A c y101 lg W hC hc hk).mono fun e w' hq => ?_
    obtain ⟨he, ⟨q, rfl⟩⟩ := hq
    exact ⟨he, below_drewN (Below.refl _ _) q⟩)
  have HLG : Hid (lg = false → a.length ≤ 100 ∧ b.length ≤ 100) := Lib.hid (fun h => by
    have h2 := (LEv.longS_false (hlg.trans h)).1
    exact ⟨h2 a (by simp), h2 b (by simp)⟩)
  have HCZ : Hid (LEv.chk a = ca ∧ LEv.chk b = cb) := Lib.hid ⟨hca, hcb⟩
  have HCA : Hid (∀ W, Below w.heap.size w W → Calls Try.prog 45 #[.slice A0 a.length c0] W fun e w' => e = .returned (.int .i64 ca) ∧ Below W.heap.size W w') := Lib.hid (by rw [← hca]; exact HPA.out.chk)
  have HCB : Hid (∀ W, Below w.heap.size w W → Calls Try.prog 45 #[.slice A1 b.length c1] W fun e w' => e = .returned (.int .i64 cb) ∧ Below W.heap.size W w') := Lib.hid (by rw [← hcb]; exact HPB.out.chk)
  have Ny101 := Aside0.mk hy101
  clear hy101 hs0 hs1 hlg hca hcb
  by_cases hbad : lg = true ∨ ca ≠ 0 ∨ cb ≠ 0
  · have hcases : (lg = true) ∨ (lg = false ∧ (ca != 0) = true) ∨ (lg = false ∧ (ca != 0) = false ∧ (cb != 0) = true) := by
      rcases hl : lg with _ | _
      · by_cases h1 : ca = 0
        · by_cases h2 : cb = 0
          · rcases hbad with h | h | h
            · rw [hl] at h; cases h
            · exact absurd h1 h
            · exact absurd h2 h
          · exact .inr (.inr ⟨rfl, by simpa using h1, by simpa using h2⟩)
        · exact .inr (.inl ⟨rfl, by simpa using h1⟩)
      · exact .inl rfl
    clear hbad
    rcases hcases with h1 | ⟨h1, h2⟩ | ⟨h1, h2, h3⟩
    all_goals subst h1
    all_goals go_enter Try.func26, Try.ntmps26
    all_goals go_wp2_with (first
      | ((with_reducible refine gate_dst (N := 22) rfl ?_); refine Kd.N_lit (Kd.slice 3 (Kd.int .i64)) _ 38 ?hg (N' := 22) ?hd (xs := ([a, b] : List (List Int))) (inner := [.slice A0 a.length c0, .slice A1 b.length c1]) (ok := (fun k_ => ((P0_ k_ ∨ P1_ k_) ∨ w.heap.size ≤ k_))) (okp := (fun k_ => ((P0_ k_ ∨ P1_ k_) ∨ w.heap.size ≤ k_))) ?hr ?hp (fun _ hk => hk) (Or.inr (Nat.le_refl _)) (Below.refl _ _) (Nat.le_refl _) (by simp) ?_
          ; (case hd => rfl); (case hg => rfl); (case hr => first | (go_simp; done) | (go_simp; rfl)); (case hp => exact (Reps.one (show Kd.FK (Kd.slice 3 (Kd.int .i64)) _ _ a [.slice A0 a.length c0] from (Kd.FK_slice_mk (Kd.V_reads' (HO0.out)).2.1 (Kd.V_F (HO0.out)))) (Reps.one (show Kd.FK (Kd.slice 3 (Kd.int .i64)) _ _ b [.slice A1 b.length c1] from (Kd.FK_slice_mk (Kd.V_reads' (HO1.out)).2.1 (Kd.V_F (HO1.out)))) (Reps.none _ _))))
          ; intro v102 w5 ho6 hb hg_ hnew_; clear hg_ hnew_; rw [← Ny101.out] at ho6; obtain ⟨Ao7, co7, eo7⟩ := Kd.N_slice ho6; subst eo7
          ; have HN5 := Lib.hid (Kd.N_reads' ho6).2; have HB5 := Lib.hid hb; clear hb ho6)
      | (go_at_call 50; (with_reducible refine (HLO.out _ _ _ HN5.out.2 HN5.out.1).mono ?_); rintro e w6 ⟨rfl, hb6⟩; have HB6 := Lib.hid (HB5.out.trans (hb6.mono HB5.out.size)); clear hb6)
      | (go_at_call_of 45 (Value.slice A0 a.length c0); (with_reducible refine (HCA.out _ HB6.out).mono ?_); rintro e w7 ⟨rfl, hb7⟩; have HB7 := Lib.hid (HB6.out.trans (hb7.mono HB6.out.size)); clear hb7)
      | (go_at_call 45; (with_reducible refine (HCB.out _ HB7.out).mono ?_); rintro e w8 ⟨rfl, hb8⟩; have HB8 := Lib.hid (HB7.out.trans (hb8.mono HB7.out.size)); clear hb8))
    all_goals go_ret
    all_goals first
      | exact ⟨rfl, HB8.out⟩
      | exact ⟨rfl, HB7.out⟩
      | exact ⟨rfl, HB6.out⟩
  · obtain ⟨h1, rfl, rfl⟩ : lg = false ∧ ca = 0 ∧ cb = 0 := by
      refine ⟨?_, ?_, ?_⟩
      · rcases hl : lg with _ | _
        · rfl
        · exact absurd (.inl hl) hbad
      · exact Classical.byContradiction fun h => hbad (.inr (.inl h))
      · exact Classical.byContradiction fun h => hbad (.inr (.inr h))
    subst h1
    clear hbad
    have HLEN := Lib.hid (HLG.out rfl)
    have HFIN := Lib.hid (HFI.out rfl rfl)
    have HBA := Lib.hid (HPA.out.bld HCZ.out.1)
    have HBB := Lib.hid (HPB.out.bld HCZ.out.2)
    have HVA : Hid (Po.Valid a) := Lib.hid ((Po.errF_zero a).1 (LEv.err_ok HCZ.out.1)).2
    have HVB : Hid (Po.Valid b) := Lib.hid ((Po.errF_zero b).1 (LEv.err_ok HCZ.out.2)).2
    clear HPA HPB HFI HLG HCZ
    go_enter Try.func26, Try.ntmps26
    go_wp2_with (first
      | ((with_reducible refine gate_dst (N := 22) rfl ?_); refine Kd.N_lit (Kd.slice 3 (Kd.int .i64)) _ 38 ?hg (N' := 22) ?hd (xs := ([a, b] : List (List Int))) (inner := [.slice A0 a.length c0, .slice A1 b.length c1]) (ok := (fun k_ => ((P0_ k_ ∨ P1_ k_) ∨ w.heap.size ≤ k_))) (okp := (fun k_ => ((P0_ k_ ∨ P1_ k_) ∨ w.heap.size ≤ k_))) ?hr ?hp (fun _ hk => hk) (Or.inr (Nat.le_refl _)) (Below.refl _ _) (Nat.le_refl _) (by simp) ?_
          ; (case hd => rfl); (case hg => rfl); (case hr => first | (go_simp; done) | (go_simp; rfl)); (case hp => exact (Reps.one (show Kd.FK (Kd.slice 3 (Kd.int .i64)) _ _ a [.slice A0 a.length c0] from (Kd.FK_slice_mk (Kd.V_reads' (HO0.out)).2.1 (Kd.V_F (HO0.out)))) (Reps.one (show Kd.FK (Kd.slice 3 (Kd.int .i64)) _ _ b [.slice A1 b.length c1] from (Kd.FK_slice_mk (Kd.V_reads' (HO1.out)).2.1 (Kd.V_F (HO1.out)))) (Reps.none _ _))))
          ; intro v102 w5 ho6 hb hg_ hnew_; clear hg_ hnew_; rw [← Ny101.out] at ho6; obtain ⟨Ao7, co7, eo7⟩ := Kd.N_slice ho6; subst eo7
          ; have HN5 := Lib.hid (Kd.N_reads' ho6).2; have HB5 := Lib.hid hb; clear hb ho6)
      | (go_at_call 50; (with_reducible refine (HLO.out _ _ _ HN5.out.2 HN5.out.1).mono ?_); rintro e w6 ⟨rfl, hb6⟩; have HB6 := Lib.hid (HB5.out.trans (hb6.mono HB5.out.size)); clear hb6)
      | (go_at_call_of 45 (Value.slice A0 a.length c0); (with_reducible refine (HCA.out _ HB6.out).mono ?_); rintro e w7 ⟨rfl, hb7⟩; have HB7 := Lib.hid (HB6.out.trans (hb7.mono HB6.out.size)); clear hb7)
      | (go_at_call 45; (with_reducible refine (HCB.out _ HB7.out).mono ?_); rintro e w8 ⟨rfl, hb8⟩; have HB8 := Lib.hid (HB7.out.trans (hb8.mono HB7.out.size)); clear hb8)
      | (go_at_call_of 62 (Value.slice A0 a.length c0); (with_reducible refine (HBA.out _ HB8.out).mono ?_); rintro e w9 ⟨la, ga, sa, rfl, hl9, hb9⟩; have HB9 := Lib.hid (HB8.out.trans (hb9.mono HB8.out.size)); have HLA9 := Lib.hid hl9; clear hb9 hl9)
      | (go_at_call 62; (with_reducible refine (HBB.out _ HB9.out).mono ?_); rintro e w10 ⟨lb, gb, sb, rfl, hl10, hb10⟩; have HB10 := Lib.hid (HB9.out.trans (hb10.mono HB9.out.size)); have HLB10 := Lib.hid hl10; have HLA10 := Lib.hid (HLA9.out.later hb10); clear hb10 hl10))
    clear HLO HN5 HB5 HB6 HB7 HB8 HB9 HLA9 HCA HCB HBA HBB HO0 HO1 Ny101
    go_loopg [9, 10, 11] 300 (fun kx s9 s10 s11 wr => ∃ (i : Nat) (at_ : Int) (acc : List Int) (m : Nat) (W : World), W = wr ∧ s10 = .int .i64 at_ ∧ s11 = .int .i64 i ∧ i ≤ Po.rk a at_ ∧ 300 - i ≤ kx ∧ acc = Po.both (a.take (Po.rk a at_)) b ∧ m = acc.length ∧ wr.ownsRow w.heap.size 3 1 s9 m (nums .i64 acc) ∧ IsList w.heap.size wr la ga sa a ∧ IsList w.heap.size wr lb gb sb b ∧ Below w.heap.size w wr)
    case atStart => exact ⟨0, 0, [], 0, _, rfl, rfl, rfl, Nat.zero_le _, by omega, by rw [rk_start HVA.out]; rfl, rfl, World.ownsRow_nil _ _ _ _, HLA10.out, HLB10.out, HB10.out⟩
    case round =>
      obtain ⟨i, at_, acc, m, W, rfl, rfl, rfl, hi, hk, hacc, hm, hown, hla, hlb, hbel⟩ := hrel
      obtain ⟨oA, oC, rfl⟩ := own_slice hown
      have HOWN := Lib.hid hown
      have HM := Lib.hid hm
      have HACC := Lib.hid hacc
      have HLAW := Lib.hid hla
      have HLBW := Lib.hid hlb
      have HBW := Lib.hid hbel
      have hrk := Po.rk_le a at_
      have HKX := Lib.hid hk
      obtain ⟨r, hr⟩ : ∃ r, Po.rk a at_ = r := ⟨_, rfl⟩
      have HR := Lib.hid hr
      rw [hr] at hi hrk
      have HI := Lib.hid hi
      have HLS : Hid (RowKit.wrap64 ((a.length : Int) + (b.length : Int)) = (a.length : Int) + (b.length : Int)) := Lib.hid (wsmall' rfl (by omega) (by have := HLEN.out; omega))
      have hz : decide ((i : Int) ≤ (a.length : Int) + (b.length : Int)) = true := by simp; omega
      obtain ⟨p, hp⟩ : ∃ p, a.getD r 0 = p := ⟨_, rfl⟩
      obtain ⟨d1, hd1⟩ : ∃ d, decide (r < a.length) = d := ⟨_, rfl⟩
      obtain ⟨s, hs⟩ : ∃ s, Po.rk b p = s := ⟨_, rfl⟩
      obtain ⟨q, hq⟩ : ∃ q, b.getD s 0 = q := ⟨_, rfl⟩
      obtain ⟨d2, hd2⟩ : ∃ d, decide (s < b.length) = d := ⟨_, rfl⟩
      have HSX : Hid (Calls Try.prog 40 #[.pointer (some ⟨la, 0, none⟩), .int .i64 at_] W fun e w' => e = .returned (.tuple #[.int .i64 p, .int .i64 (r : Nat), .bool d1]) ∧ Below W.heap.size W w') := Lib.hid (by
        have h := seek_calls _ la ga sa a at_ W hla
        unfold SeekPost Po.seekP at h
        rw [hr, hp, hd1] at h
        exact h)
      have HSY : Hid (∀ W2, IsList w.heap.size W2 lb gb sb b → Calls Try.prog 40 #[.pointer (some ⟨lb, 0, none⟩), .int .i64 p] W2 fun e w' => e = .returned (.tuple #[.int .i64 q, .int .i64 (s : Nat), .bool d2]) ∧ Below W2.heap.size W2 w') := Lib.hid (fun W2 h2 => by
        have h := seek_calls _ lb gb sb b p W2 h2
        unfold SeekPost Po.seekP at h
        rw [hs, hq, hd2] at h
        exact h)
      have HP := Lib.hid hp
      have HS := Lib.hid hs
      have HQ := Lib.hid hq
      clear hown hm hacc hla hlb hbel hr hp hs hq hk
      have x1 := HLS.out
      by_cases hend : d1 = false ∨ d2 = false
      · have HEND : Hid (acc = Po.both a b) := Lib.hid (by
          rw [HACC.out, HR.out]
          clear x1
          by_cases hra : r = a.length
          · exact Po.lp_stop a b r hra
          · have hra2 : r < a.length := by omega
            have e2 : d2 = false := by
              rcases hend with h | h
              · rw [h] at hd1; exact absurd hra2 (of_decide_eq_false hd1)
              · exact h
            rw [e2] at hd2
            have h3 := of_decide_eq_false hd2
            have h4 := Po.rk_le b p
            rw [HS.out] at h4
            exact Po.lp_end HVA.out HVB.out r hra2 (by rw [HP.out, HS.out]; omega))
        have HCE : Hid (m = (Po.both a b).length) := Lib.hid (by rw [HM.out, HEND.out])
        have HRC : Hid (∃ A c, Value.slice oA m oC = .slice A (Po.both a b).length c ∧ (Po.both a b).length ≤ c ∧ Kd.C (Kd.int .i64) W A (Po.both a b).length (Po.both a b)) := Lib.hid (own_C HCE.out (by rw [← HEND.out]; exact HOWN.out))
        obtain ⟨bt, hbt⟩ : ∃ bt, Po.both a b = bt := ⟨_, rfl⟩
        rw [hbt] at HRC HFIN
        obtain ⟨A, c, he, hc, hC⟩ := HRC.out
        simp only [Value.slice.injEq] at he
        obtain ⟨rfl, rfl, rfl⟩ := he
        have HCC := Lib.hid hC
        have HCL := Lib.hid hc
        have hcases : (d1 = false) ∨ (d1 = true ∧ d2 = false) := by
          rcases hend with h | h
          · exact .inl h
          · cases d1
            · exact .inl rfl
            · exact .inr ⟨rfl, h⟩
        clear hd1 hd2 hend hbt hC hc HRC HCE HEND HACC HM HOWN hi hrk HI HP HS HQ HR HKX
        rcases hcases with h1 | ⟨h1, h2⟩
        all_goals subst h1
        all_goals first | subst h2 | skip
        all_goals go_wp2_with (first
          | (go_at_call_of 40 (Value.pointer (some ⟨la, 0, none⟩)); (with_reducible refine HSX.out.mono ?_); rintro e w11 ⟨rfl, hb11⟩; have HB11 := Lib.hid (HBW.out.trans (hb11.mono HBW.out.size)); have HLB11 := Lib.hid (HLBW.out.later hb11); have HC11 := Lib.hid (Kd.C_below HCC.out hb11); clear hb11)
          | (go_at_call 40; (with_reducible refine (HSY.out _ HLB11.out).mono ?_); rintro e w12 ⟨rfl, hb12⟩; have HB12 := Lib.hid (HB11.out.trans (hb12.mono HB11.out.size)); have HC12 := Lib.hid (Kd.C_below HC11.out hb12); clear hb12)
          | (go_at_call 54; (with_reducible refine (HFIN.out.sect _ HB12.out).mono ?_); rintro e w13 ⟨M, cm, rfl, hcm, hCm, hb13⟩; have HB13 := Lib.hid (HB12.out.trans (hb13.mono HB12.out.size)); have HC13 := Lib.hid (Kd.C_below HC12.out hb13); have HCM := Lib.hid hcm; have HM13 := Lib.hid hCm; clear hb13 hcm hCm)
          | (go_at_call 41; (with_reducible refine (HFIN.out.same _ _ _ _ _ HC13.out HCL.out HM13.out HCM.out).mono ?_); rintro e w14 ⟨rfl, hb14⟩; have HB14 := Lib.hid (HB13.out.trans (hb14.mono HB13.out.size)); clear hb14)
          | (go_at_call 47; (with_reducible refine (HFIN.out.awk _).mono ?_); rintro e w15 ⟨rfl, hb15⟩; have HB15 := Lib.hid (HB14.out.trans (hb15.mono HB14.out.size)); clear hb15))
        all_goals go_ret
        all_goals exact ⟨rfl, HB15.out⟩
      · obtain ⟨rfl, rfl⟩ : d1 = true ∧ d2 = true := by
          cases d1
          · exact absurd (.inl rfl) hend
          · cases d2
            · exact absurd (.inr rfl) hend
            · exact ⟨rfl, rfl⟩
        have hra := of_decide_eq_true hd1
        have hsb := of_decide_eq_true hd2
        have hqr := HVB.out s hsb
        have hq1 := hqr.1
        have hq2 := hqr.2.1
        rw [HQ.out] at hq1 hq2
        have HLEN2 := Lib.hid hra
        have HW2 : Hid (RowKit.wrap64 ((i : Int) + 1) = (i : Int) + 1) := Lib.hid (wsmall' rfl (by omega) (by have := HLEN.out; omega))
        have HW3 : Hid (RowKit.wrap64 (q + 1) = q + 1) := Lib.hid (wsmall' rfl (by omega) (by omega))
        have x2 := HW2.out
        have x3 := HW3.out
        by_cases hpq : p = q
        · subst hpq
          have hL := Po.lp_eq HVA.out r p hra HP.out (by rw [HS.out]; exact hsb) (by rw [HS.out]; exact HQ.out)
          have HL := Lib.hid hL
          have HMX : Hid (((nums .i64 acc).length + 1) * 8 ≤ 140737488355328) := Lib.hid (by
            have h1 : acc.length ≤ a.length := by
              rw [HACC.out]
              exact Nat.le_trans (List.length_filter_le _ _) (List.length_take_le' _ _)
            have h2 := HLEN.out
            rw [nums, List.length_map]; clear x1 x2 x3; omega)
          have HNL : Hid ((nums .i64 acc).length = m) := Lib.hid (by rw [HM.out, nums, List.length_map])
          have HO2 : Hid (W.ownsRow w.heap.size 3 1 (.slice oA m oC) (nums .i64 acc).length (nums .i64 acc)) := Lib.hid (by rw [HNL.out]; exact HOWN.out)
          have HNS : Hid (nums .i64 acc ++ [.int .i64 p] = nums .i64 (acc ++ [p])) := Lib.hid (by rw [nums_append]; rfl)
          clear hL hra hsb hqr hq1 hq2 hd1 hd2 hend hi hrk HFIN HOWN
          generalize nums .i64 acc = ns at *
          go_wp2_with (first
            | (go_at_call_of 40 (Value.pointer (some ⟨la, 0, none⟩)); (with_reducible refine HSX.out.mono ?_); rintro e w11 ⟨rfl, hb11⟩; have HB11 := Lib.hid (HBW.out.trans (hb11.mono HBW.out.size)); have HLB11 := Lib.hid (HLBW.out.later hb11); have HLA11 := Lib.hid (HLAW.out.later hb11); have HC11 := Lib.hid (own_later HO2.out hb11); clear hb11)
            | (go_at_call 40; (with_reducible refine (HSY.out _ HLB11.out).mono ?_); rintro e w12 ⟨rfl, hb12⟩; have HB12 := Lib.hid (HB11.out.trans (hb12.mono HB11.out.size)); have HLB12 := Lib.hid (HLB11.out.later hb12); have HLA12 := Lib.hid (HLA11.out.later hb12); have HC12 := Lib.hid (own_later HC11.out hb12); clear hb12)
            | ((with_reducible refine gate_dst (N := 93) rfl ?_); refine print_append (w0 := w) (W := w12) w.heap.size rfl (.tmp 90) (.tmp 92) 38 3 (.int .i64 0) 8 rfl (show Try.prog.underlying 38 = some (.slice 3) by kernel_rfl) (by kernel_rfl) rfl (by decide) (.slice oA m oC) ns (.int .i64 p) rfl rfl rfl HC12.out HB12.out HB12.out.size HMX.out ?_
                ; intro v5 w5 hown5 hb5 hgr5 _
                ; have HO5 := Lib.hid hown5; have HB5 := Lib.hid hb5; have HG5 := Lib.hid hgr5; clear hown5 hb5 hgr5))
          go_roundg (300 - (i + 1))
          case measure => clear x1 x2 x3; have := HKX.out; have := HI.out; have := HLEN2.out; have := HLEN.out; omega
          case rel =>
            clear x1 x2 x3
            have h5 := HO5.out
            rw [HNS.out] at h5
            exact ⟨i + 1, p + 1, acc ++ [p], _, _, rfl, by first | exact congrArg (Value.int .i64) HW3.out | rfl, by first | exact congrArg (Value.int .i64) HW2.out | rfl, by rw [HL.out.1]; have := HI.out; omega, Nat.le_refl _, by rw [HL.out.1, HL.out.2, HACC.out, HR.out], by rw [nums, List.length_map], h5, HLA12.out.beside HC12.out HG5.out, HLB12.out.beside HC12.out HG5.out, HB5.out⟩
        · have hL := Po.lp_lt HVA.out HVB.out r p q hra HP.out (by rw [HS.out]; exact hsb) (by rw [HS.out]; exact HQ.out) hpq
          have HL := Lib.hid hL
          have hne : decide (p = q) = false := by simpa using hpq
          have hne2 : (p == q) = false := by simpa using hpq
          clear hL hra hsb hqr hq1 hq2 hd1 hd2 hend hi hrk HFIN
          go_wp2_with (first
            | (go_at_call_of 40 (Value.pointer (some ⟨la, 0, none⟩)); (with_reducible refine HSX.out.mono ?_); rintro e w11 ⟨rfl, hb11⟩; have HB11 := Lib.hid (HBW.out.trans (hb11.mono HBW.out.size)); have HLB11 := Lib.hid (HLBW.out.later hb11); have HLA11 := Lib.hid (HLAW.out.later hb11); have HC11 := Lib.hid (own_later HOWN.out hb11); clear hb11)
            | (go_at_call 40; (with_reducible refine (HSY.out _ HLB11.out).mono ?_); rintro e w12 ⟨rfl, hb12⟩; have HB12 := Lib.hid (HB11.out.trans (hb12.mono HB11.out.size)); have HLB12 := Lib.hid (HLB11.out.later hb12); have HLA12 := Lib.hid (HLA11.out.later hb12); have HC12 := Lib.hid (own_later HC11.out hb12); clear hb12))
          go_roundg (300 - (i + 1))
          case measure => clear x1 x2 x3; have := HKX.out; have := HI.out; have := HLEN2.out; have := HLEN.out; omega
          case rel =>
            clear x1 x2 x3
            exact ⟨i + 1, q, acc, m, _, rfl, rfl, by first | exact congrArg (Value.int .i64) HW2.out | rfl, by have := HL.out.1; have := HI.out; omega, Nat.le_refl _, by rw [HL.out.2, HACC.out, HR.out], HM.out, HC12.out, HLA12.out, HLB12.out, HB12.out⟩
end Go.Proofs.Ytmeojlamadcedaa
namespace Go.Proofs.Ytmeojlamadcedaa.Given
open Go.RowKit Go.Sort Go.Proofs.YtmeojlamadcedaaW.PrintWords Go.Proofs.YtmeojlamadcedaaW.PrintLast Go.Proofs.YtmeojlamadcedaaW.PrintMore
def corporalaw18_ListsPostings.f (_l0 : List Int) (_l1 : List Int) : Option Bool := some true
theorem corporalaw18_ListsPostings.calls (P0_ : Nat → Prop) (A0 : Option Addr) (c0 : Nat) (l0 : List Int) (P1_ : Nat → Prop) (A1 : Option Addr) (c1 : Nat) (l1 : List Int) (r : Bool) (w : World) (hs0 : Kd.V (Kd.int .i64) 3 w w.heap.size (fun k_ => P0_ k_) (.slice A0 l0.length c0) l0) (hs1 : Kd.V (Kd.int .i64) 3 w w.heap.size (fun k_ => P1_ k_) (.slice A1 l1.length c1) l1) (h : corporalaw18_ListsPostings.f l0 l1 = some r) :
    Calls Try.prog 26 #[.slice A0 l0.length c0, .slice A1 l1.length c1] w fun e w' => e = .returned (.bool r) ∧ Below w.heap.size w w' := by
  obtain rfl := Option.some.inj h
  exact lists_main P0_ P1_ A0 A1 c0 c1 l0 l1 w hs0 hs1 _ rfl _ _ rfl rfl
end Go.Proofs.Ytmeojlamadcedaa.Given
