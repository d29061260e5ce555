/- Arguments of a law as its row opens them (slices of whole numbers, slices of such slices), told as the print reads them.
   Conditions: those of each theorem. -/
import Derived.Test.YtmeojlamadcedaaWSized
import Derived.Test.YtmeojlamadcedaaWMore
import Derived.Test.YtmeojlamadcedaaWShare
import Derived.Deep.Matrix
import Derived.WalkKit
import Derived.ProofKit
import Derived.SizedLaws
namespace Go.Proofs.Ytmeojlamadcedaa.RowWords
open Go.ChangeShapes Go.WideShapes Go.RowKit Go.Proofs.YtmeojlamadcedaaW.PrintWords Go.Proofs.YtmeojlamadcedaaW.PrintLast Go.Proofs.YtmeojlamadcedaaW.PrintMore

def IsRow (k : IntKind) (w : World) (a : Option Addr) (len cap : Nat) (zs : List Int) : Prop :=
  (a = none ∧ len = 0 ∧ cap = 0 ∧ zs = []) ∨
  ∃ x, a = some x ∧ len ≤ cap ∧ cap ≤ maxLen ∧ zs.length = cap ∧ (∀ i, i < zs.length → w.cell? (x.add i) = some (.int k (zs.getD i 0))) ∧ ∀ n ∈ zs, (Lit.int k n).wf = true

theorem block_add (a : Addr) (n : Nat) : (a.add n).block = a.block := by unfold Addr.add; split <;> rfl

theorem cell_heap {w w' : World} {p : Addr} {v : Value} (h : w.cell? p = some v) (hb : ∀ k, k < w.heap.size → w'.heap[k]? = w.heap[k]?) : w'.cell? p = some v :=
  (World.cell?_of_block (hb _ (World.block_lt_of_cell? _ _ h))).trans h

/-- A row of whole numbers that came in: read, and read in every world that has these blocks. -/
theorem ints_of {k : IntKind} {w : World} {a : Option Addr} {len cap : Nat} {zs : List Int} (h : IsRow k w a len cap zs) :
    ∃ l : List Int, len = l.length ∧ Kd.C (Kd.int k) w a l.length l ∧ (∀ P : Nat → Prop, (∀ i, P i) → ∀ e base, Kd.V (Kd.int k) e w base P (.slice a l.length cap) l) ∧ (∀ x ∈ l, (Lit.int k x).wf = true) ∧ l.length ≤ cap := by
  obtain ⟨l, rfl, hr, _, hw, hc⟩ := ReadsInt.ofRowC h
  refine ⟨l, rfl, Kd.C_of_reads (d := (0 : Int)) (h1 := fun _ => rfl) hr, fun P hP e base => Kd.V_mk hc ?_, hw, hc⟩
  intro W' hW
  refine Kd.C_of_reads (d := (0 : Int)) (h1 := fun _ => rfl) ⟨hr.1, hr.2.1, fun hn => ?_⟩
  obtain ⟨ad, e, hcell⟩ := hr.2.2 hn
  exact ⟨ad, e, fun j hj => cell_heap (hcell j hj) fun k hk => hW k (hP k) hk⟩

/-- A slice of slices of whole numbers, as the row opens it. -/
def IsRows (k : IntKind) (w : World) (a : Option Addr) (len cap : Nat) : Prop :=
  (a = none ∧ len = 0 ∧ cap = 0) ∨
  ∃ (x : Addr) (A : Nat → Option Addr) (L C : Nat → Nat) (Z : Nat → List Int), a = some x ∧ len ≤ cap ∧ cap ≤ maxLen ∧
    ∀ r, r < cap → w.cell? (x.add r) = some (.slice (A r) (L r) (C r)) ∧ L r ≤ C r ∧ C r ≤ maxLen ∧ (Z r).length = C r ∧ (∀ n ∈ Z r, (Lit.int k n).wf = true) ∧ (A r = none → C r = 0) ∧
      ∀ a', A r = some a' → ∀ c, c < C r → w.cell? (a'.add c) = some (.int k ((Z r).getD c 0))

theorem rows_of {k : IntKind} {e : Nat} {w : World} {a : Option Addr} {len cap : Nat} (h : IsRows k w a len cap) :
    ∃ ls : List (List Int), len = ls.length ∧ Kd.C (Kd.slice e (Kd.int k)) w a ls.length ls ∧ ls.length ≤ cap := by
  rcases h with ⟨rfl, rfl, rfl⟩ | ⟨x, A, L, C, Z, rfl, hl, hm, hr⟩
  · exact ⟨[], rfl, ⟨rfl, by simp, fun h => absurd h (by simp)⟩, by simp⟩
  · refine ⟨(List.range len).map fun r => (Z r).take (L r), by simp, ⟨by simp, ?_, fun _ => ⟨x, rfl, fun j p hj => ?_⟩⟩, by simpa using hl⟩
    · unfold maxLen at hm; simp; omega
    · obtain ⟨hj1, hj2⟩ := List.getElem?_eq_some_iff.1 hj
      have hjl : j < len := by simpa using hj1
      have hp : (Z j).take (L j) = p := by simpa using hj2
      obtain ⟨c1, c2, c3, c4, c5, c6, c7⟩ := hr j (by omega)
      have hpl : p.length = L j := by rw [← hp, List.length_take]; omega
      refine ⟨[.slice (A j) (L j) (C j)], rfl, ⟨A j, C j, by rw [hpl], by omega, ?_⟩, fun i u hu => ?_⟩
      · refine Kd.C_of_reads (d := (0 : Int)) (h1 := fun _ => rfl) ⟨rfl, by unfold maxLen at c3; omega, fun hn => ?_⟩
        cases hA : A j with
        | none => have := c6 hA; omega
        | some a' =>
          refine ⟨a', rfl, fun c hc => ?_⟩
          rw [c7 a' hA c (by omega)]
          have : (Z j).getD c 0 = p.getD c 0 := by
            rw [← hp, List.getD_eq_getElem?_getD, List.getD_eq_getElem?_getD, List.getElem?_take]
            rw [if_pos (by omega)]
          rw [this]
      · cases i with
        | zero =>
          have : Value.slice (A j) (L j) (C j) = u := by simpa using hu
          subst this
          simpa [Kd.slice] using c1
        | succ i => simp at hu

/-- The row's slice of slices is no longer than its weight allows. -/
theorem sized_rows {H : Type} {enc : TypeId × Value → H} {P : Program} {W : World} {base : Nat} {held : Bool} {t e q : TypeId} {k : IntKind} {a : Option Addr} {len cap : Nat} {d : DataW H} {ps : List MemPlace} {ts : List TypeId} {ds : List (DataW H)} {j : Nat}
    (hsz : (DataW.weightsEach P ts ds).all (· ≤ reachBytes) = true) (ht : ts[j]? = some t) (hd : ds[j]? = some d) (hu : P.underlying t = some (.slice e)) (he : P.underlying e = some (.slice q)) (hq : P.underlying q = some (.int k))
    (ce : P.cellsOf e = 1) (cq : P.cellsOf q = 1) {B : Nat} (hB : P.bytesOf e = B) (h : DataW.Trod enc P W base (fun _ => true) held t (.slice a len cap) d ps) : len * B ≤ 140737488351232 := by
  obtain ⟨fuel, hf⟩ := h
  rcases Go.Deep.open_int_rows hu he hq ce cq hf with ⟨hcs, _⟩ | ⟨x, l, c, A, L, C, Z, hcs, _, hl, hm, hx, _⟩
  · simp [Value.cells] at hcs
    obtain ⟨rfl, rfl, rfl⟩ := hcs
    simp
  · simp [Value.cells] at hcs
    obtain ⟨rfl, rfl, rfl⟩ := hcs
    obtain ⟨hx, _⟩ := Prod.mk.inj hx
    subst hx
    have z := sized_slice hsz ht hd hu
    rw [hB] at z
    simp only [List.length_map, List.length_range] at z
    exact Nat.le_trans (Nat.mul_le_mul_right _ (by omega)) z

end Go.Proofs.Ytmeojlamadcedaa.RowWords
