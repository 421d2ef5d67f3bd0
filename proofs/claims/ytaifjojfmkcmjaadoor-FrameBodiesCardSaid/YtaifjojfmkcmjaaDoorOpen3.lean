/-
  Arguments opened: slices of integers and of flags that came in, as rows; no program's text.
-/
import Derived.Test.YtaifjojfmkcmjaaDoorOpen
import Derived.ChangeSlices
import Derived.Deep.Grids
namespace Go.Proofs.YtaifjojfmkcmjaaDoorBase
open Go.RowKit Go.ChangeShapes Go.WideShapes Go.Deep
set_option linter.unusedVariables false

section
variable {H : Type} {enc : TypeId × Value → H} {P : Program} {w : World}
theorem open_ints_row {k : IntKind} {t e : TypeId} {d : DataW H} {A : Option Addr} {n c base : Nat} {held : Bool} {ps : List MemPlace} (ht : P.underlying t = some (.slice e)) (he : P.underlying e = some (.int k)) (hc : P.cellsOf e = 1)
    (h : DataW.Trod enc P w base (fun _ => true) held t (.slice A n c) d ps) :
    ∃ l : List Int, RowIn w A n (l.map (Value.int k)) ∧ ∀ z ∈ l, (Lit.int k z).wf = true := by
  obtain ⟨fuel, hf⟩ := h
  rcases open_ints ht he hc hf with ⟨hcs, _⟩ | ⟨a, len, cap, zs, hcs, _, hl, hm, hlen, hx, hcell, hwf⟩
  · simp [Value.cells] at hcs
    obtain ⟨rfl, rfl, rfl⟩ := hcs
    exact ⟨[], ⟨rfl, Nat.zero_le _, fun h => absurd h (Nat.lt_irrefl 0)⟩, fun s hs => by cases hs⟩
  · simp [Value.cells] at hcs
    obtain ⟨rfl, rfl, rfl⟩ := hcs
    simp only [if_true] at hlen
    refine ⟨zs.take n, rowIn_of_cells (by simp; omega) (Nat.le_trans hl hm) (fun i u hu => ?_), fun s hs => hwf s (List.mem_of_mem_take hs)⟩
    have hi : i < n := by
      have := (List.getElem?_eq_some_iff.1 hu).1
      simp at this; omega
    rw [hcell i (by omega)]
    simp [hi, show i < zs.length by omega] at hu
    simp [List.getD, show i < zs.length by omega, hu]
theorem open_bools_row {t e : TypeId} {d : DataW H} {A : Option Addr} {n c base : Nat} {held : Bool} {ps : List MemPlace} (ht : P.underlying t = some (.slice e)) (he : P.underlying e = some .bool) (hc : P.cellsOf e = 1)
    (h : DataW.Trod enc P w base (fun _ => true) held t (.slice A n c) d ps) :
    ∃ l : List Bool, RowIn w A n (l.map Value.bool) := by
  obtain ⟨fuel, hf⟩ := h
  rcases open_bools ht he hc hf with ⟨hcs, _⟩ | ⟨a, len, cap, B, hcs, _, hl, hm, hx, hcell⟩
  · simp [Value.cells] at hcs
    obtain ⟨rfl, rfl, rfl⟩ := hcs
    exact ⟨[], ⟨rfl, Nat.zero_le _, fun h => absurd h (Nat.lt_irrefl 0)⟩⟩
  · simp [Value.cells] at hcs
    obtain ⟨rfl, rfl, rfl⟩ := hcs
    refine ⟨(List.range n).map B, rowIn_of_cells (by simp) (Nat.le_trans hl hm) (fun i u hu => ?_)⟩
    have hi : i < n := by
      have := (List.getElem?_eq_some_iff.1 hu).1
      simp at this; omega
    rw [hcell i (by omega)]
    simp [hi] at hu
    rw [← hu]
end
end Go.Proofs.YtaifjojfmkcmjaaDoorBase
