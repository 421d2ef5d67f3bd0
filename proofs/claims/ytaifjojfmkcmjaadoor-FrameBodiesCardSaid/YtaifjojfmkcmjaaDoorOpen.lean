/-
  Arguments opened: slices that came in, as rows; no program's text.
-/
import Derived.Test.YtaifjojfmkcmjaaDoorBase2
import Derived.WalkKit
import Derived.ProofKit
import Derived.OpenShut
import Derived.SliceStrings
import Derived.SizedLaws
namespace Go.Proofs.YtaifjojfmkcmjaaDoorBase
open Go.RowKit Go.ChangeShapes Go.WideShapes
set_option linter.unusedVariables false

section
variable {H : Type} {enc : TypeId × Value → H} {P : Program} {w : World}
theorem weightsAll_mem {e : TypeId} {n : Nat} : ∀ {ds : List (DataW H)} {d : DataW H}, d ∈ ds → n ∈ d.weights P e → n ∈ DataW.weightsAll P e ds
  | d0 :: ds, d, hd, hn => by
    simp only [DataW.weightsAll, List.mem_append]
    rcases List.mem_cons.1 hd with rfl | h
    · exact .inl hn
    · exact .inr (weightsAll_mem h hn)

theorem rowIn_of_cells {A : Addr} {n : Nat} {xs : List Value} (hn : n = xs.length) (hm : n ≤ maxLen) (hc : ∀ i u, xs[i]? = some u → w.cell? (A.add i) = some u) : RowIn w (some A) n xs := by
  refine ⟨hn, hm, fun hpos => ?_⟩
  obtain ⟨b, off, spot⟩ := A
  have h0 : ∃ u, xs[0]? = some u := ⟨xs[0], List.getElem?_eq_getElem (by omega)⟩
  obtain ⟨u, hu⟩ := h0
  have hc0 := hc 0 u hu
  have hspot : spot = none := by simpa [Addr.add] using World.cell?_spot hc0
  subst hspot
  refine ⟨b, off, rfl, ?_, fun k v hv => ?_⟩
  · have := World.block_lt_of_cell? _ _ hc0
    simpa [Addr.add] using this
  · have := hc k v hv
    rwa [add_plain] at this

theorem open_strs_row {ts : List TypeId} {ds : List (DataW H)} {j : Nat} {t e : TypeId} {d : DataW H} {A : Option Addr} {n c base : Nat} {held : Bool} {ps : List MemPlace} (ht : P.underlying t = some (.slice e)) (he : P.underlying e = some .string) (hc : P.cellsOf e = 1)
    (hsz : (DataW.weightsEach P ts ds).all (· ≤ reachBytes) = true) (htj : ts[j]? = some t) (hdj : ds[j]? = some d) (h : DataW.Trod enc P w base (fun _ => true) held t (.slice A n c) d ps) :
    ∃ ss : List ByteArray, RowIn w A n (ss.map Value.string) ∧ ∀ s ∈ ss, s.size ≤ 140737488351232 := by
  obtain ⟨fuel, hf⟩ := h
  rcases open_strings ht he hc hf with ⟨hcs, _⟩ | ⟨a, len, cap, ss, hcs, _, hl, hm, hlen, hx, hcell, hsm⟩
  · simp [Value.cells] at hcs
    obtain ⟨rfl, rfl, rfl⟩ := hcs
    exact ⟨[], ⟨rfl, Nat.zero_le _, fun h => absurd h (Nat.lt_irrefl 0)⟩, fun s hs => by cases hs⟩
  · simp [Value.cells] at hcs
    obtain ⟨rfl, rfl, rfl⟩ := hcs
    simp only [if_true] at hlen
    refine ⟨ss.take n, rowIn_of_cells (by simp; omega) (Nat.le_trans hl hm) (fun i u hu => ?_), fun s hs => ?_⟩
    · have hi : i < n := by
        have := (List.getElem?_eq_some_iff.1 hu).1
        simp at this; omega
      rw [hcell i (by omega)]
      simp [hi, show i < ss.length by omega] at hu
      simp [List.getD, show i < ss.length by omega, hu]
    · obtain ⟨rfl, _⟩ := Prod.mk.inj hx
      have hmem : (DataW.lit (.string s.data.toList) : DataW H) ∈ strs (ss.take n) := by
        unfold strs
        exact List.mem_map.2 ⟨s, hs, rfl⟩
      have := List.all_eq_true.1 hsz _ (DataW.weights_mem_each htj hdj s.data.toList.length (by
        simp only [DataW.weights, ht, List.mem_cons, List.mem_append]
        exact .inr (.inl (weightsAll_mem hmem (by simp [DataW.weights])))))
      simp only [decide_eq_true_eq] at this
      rw [len_data] at this
      exact this
end
end Go.Proofs.YtaifjojfmkcmjaaDoorBase
