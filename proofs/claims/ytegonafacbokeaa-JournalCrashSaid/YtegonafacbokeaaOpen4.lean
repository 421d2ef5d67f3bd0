/-
  Arguments opened: slices of texts that came in, with their capacity; no program's text.
-/
import Derived.Test.YtegonafacbokeaaOpen
namespace Go.Proofs.YtegonafacbokeaaBase
open Go.RowKit Go.ChangeShapes Go.WideShapes
set_option linter.unusedVariables false

section
variable {H : Type} {enc : TypeId × Value → H} {P : Program} {w : World}
theorem open_strs_room {ts : List TypeId} {ds : List (DataW H)} {j : Nat} {t e : TypeId} {d : DataW H} {A : Option Addr} {n c base : Nat} {held : Bool} {ps : List MemPlace} (ht : P.underlying t = some (.slice e)) (he : P.underlying e = some .string) (hc : P.cellsOf e = 1)
    (hsz : (DataW.weightsEach P ts ds).all (· ≤ reachBytes) = true) (htj : ts[j]? = some t) (hdj : ds[j]? = some d) (h : DataW.Trod enc P w base (fun _ => true) held t (.slice A n c) d ps) :
    ∃ ss : List ByteArray, RowIn w A n (ss.map Value.string) ∧ (∀ s ∈ ss, s.size ≤ 140737488351232) ∧ n ≤ c ∧ c ≤ maxLen := by
  obtain ⟨fuel, hf⟩ := h
  rcases open_strings ht he hc hf with ⟨hcs, _⟩ | ⟨a, len, cap, ss, hcs, _, hl, hm, hlen, hx, hcell, hsm⟩
  · simp [Value.cells] at hcs
    obtain ⟨rfl, rfl, rfl⟩ := hcs
    exact ⟨[], ⟨rfl, Nat.zero_le _, fun h => absurd h (Nat.lt_irrefl 0)⟩, fun s hs => (by cases hs), Nat.le_refl _, Nat.zero_le _⟩
  · simp [Value.cells] at hcs
    obtain ⟨rfl, rfl, rfl⟩ := hcs
    simp only [if_true] at hlen
    refine ⟨ss.take n, rowIn_of_cells (by simp; omega) (Nat.le_trans hl hm) (fun i u hu => ?_), fun s hs => ?_, hl, hm⟩
    · have hi : i < n := by
        have := (List.getElem?_eq_some_iff.1 hu).1
        simp at this; omega
      rw [hcell i (by omega)]
      simp [hi, show i < ss.length by omega] at hu
      simp [List.getD, show i < ss.length by omega, hu]
    · obtain ⟨rfl, _⟩ := Prod.mk.inj hx
      have hmem : (DataW.lit (.string s.data.toList) : DataW H) ∈ strs (ss.take n) := by
        unfold strs
        exact List.mem_map.2 ⟨s, hs, rfl⟩
      have := List.all_eq_true.1 hsz _ (DataW.weights_mem_each htj hdj s.data.toList.length (by
        simp only [DataW.weights, ht, List.mem_cons, List.mem_append]
        exact .inr (.inl (weightsAll_mem hmem (by simp [DataW.weights])))))
      simp only [decide_eq_true_eq] at this
      rw [len_data] at this
      exact this
end
end Go.Proofs.YtegonafacbokeaaBase
