/-
  Arguments opened: a slice of structs of one-cell fields, cell by cell; the script of layer 15.
-/
import Derived.Test.YtaifjojfmkcmjaaDoorOpen
import Derived.Deep.Slices
import Derived.Deep.Fields
namespace Go.Proofs.YtaifjojfmkcmjaaDoorBase
open Go.RowKit Go.ChangeShapes Go.WideShapes Go.Deep
set_option linter.unusedVariables false

section
variable {H : Type} {enc : TypeId × Value → H} {P : Program} {w : World}
theorem open_fields {t e : TypeId} {fs : Array Field} {base fuel : Nat} {held : Bool} {cs : List Value} {x : DataW H × List MemPlace} (ht : P.underlying t = some (.slice e)) (he : P.underlying e = some (.struct fs)) (hone : oneCellFields P fs = true) (hC : P.cellsOf e = fs.size)
    (h : DataW.trod enc P w base (fun _ => true) held fuel t cs = some x) :
    cs = [.slice none 0 0] ∨ ∃ (a : Addr) (len cap : Nat) (D : Nat → DataW H) (rest : List (DataW H)), cs = [.slice (some a) len cap] ∧ len ≤ maxLen ∧ x.1 = .slice ((List.range len).map D) rest ∧
      ∀ i, i < len → ∃ l : List (DataW H), D i = .agg l ∧ ∀ (j : Nat) (f : Field), fs[j]? = some f → ∃ (v : Value) (y : DataW H × List MemPlace) (n : Nat), w.cell? (a.add (i * fs.size + j)) = some v ∧ l[j]? = some y.1 ∧ DataW.trod enc P w base (fun _ => true) held n f.type [v] = some y := by
  rcases open_slice ht h with ⟨h0, _⟩ | ⟨a, len, cap, m, n, D, Pl, hcs, _, hl, hm, hmm, hx, hi⟩
  · exact .inl h0
  right
  simp only [if_true] at hmm
  refine ⟨a, len, cap, D, _, hcs, Nat.le_trans hl hm, by rw [hx], fun i hil => ?_⟩
  obtain ⟨cs', hc, htr⟩ := hi i (by omega)
  obtain ⟨ys, n', _, hy, _, hyl, hf⟩ := DataW.trod_struct he htr
  obtain ⟨_, hcl, hat⟩ := World.cells?_some hc
  rw [hC] at hcl hat
  simp only [Prod.mk.injEq] at hy
  refine ⟨ys.map (·.1), hy.1, fun j f hj => ?_⟩
  have hjs : j < fs.size := (Array.getElem?_eq_some_iff.1 hj).1
  obtain ⟨ho, hk⟩ := hone_of hone j f hj
  have h1 := hf j f hj
  rw [ho, hk, List.drop_eq_getElem_cons (by omega)] at h1
  have hys : ys[j]? = some (ys[j]'(by omega)) := List.getElem?_eq_getElem (by omega)
  refine ⟨cs'[j]'(by omega), ys[j]'(by omega), n', ?_, by simp [hys], by rw [← hys]; exact h1⟩
  have hcell := hat j hjs
  rw [Go.Deep.add_add] at hcell
  rw [hcell, List.getElem?_eq_getElem (by omega)]
end
end Go.Proofs.YtaifjojfmkcmjaaDoorBase
