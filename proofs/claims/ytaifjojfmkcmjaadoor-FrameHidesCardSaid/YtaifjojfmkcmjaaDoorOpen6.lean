/-
  An argument that is an array of two ints, opened.
-/
import Derived.ProofKit
import Derived.OpenShut
import Derived.ChangeShapes
import Derived.WideShapes
namespace Go.Proofs.YtaifjojfmkcmjaaDoorBase
open Go.ChangeShapes Go.WideShapes Go.ChangeAt Go.RowKit
set_option linter.unusedVariables false
theorem open_pair {H : Type} {enc : TypeId × Value → H} {P : Program} {w : World} {base : Nat} {spare : Nat → Bool} {held : Bool} {r : Reach} {b0 : Nat} {t e : TypeId} {v : Value} {d : DataW H} {ps : List MemPlace}
    (ht : P.underlying t = some (.array 2 e)) (he : P.underlying e = some (.int .i64)) (hce : P.cellsOf e = 1) (hct : P.cellsOf t = 2) (hval : Value.okWide P w r b0 t v) (hd : DataW.Trod enc P w base spare held t v d ps) :
    ∃ a b, v = .agg #[.int .i64 a, .int .i64 b] ∧ (Lit.int .i64 a).wf = true ∧ (Lit.int .i64 b).wf = true := by
  simp only [Value.okWide, ht] at hval
  obtain ⟨cs, rfl, h2, _⟩ := hval
  obtain ⟨fuel, hf⟩ := hd
  obtain ⟨xs, m, _, _, hl, hn, hel⟩ := DataW.trod_array ht hf
  simp only [Value.cells] at hel hl
  rw [hce] at hel
  rw [hct] at h2 hl
  obtain ⟨l⟩ := cs
  match l, hl with
  | [c0, c1], _ =>
    have e0 := hel 0 (by decide)
    have e1 := hel 1 (by decide)
    simp at e0 e1
    have g0 : ∃ y, xs[0]? = some y := ⟨_, List.getElem?_eq_getElem (by omega)⟩
    have g1 : ∃ y, xs[1]? = some y := ⟨_, List.getElem?_eq_getElem (by omega)⟩
    obtain ⟨y0, g0⟩ := g0
    obtain ⟨y1, g1⟩ := g1
    obtain ⟨a, ha, _, wa⟩ := DataW.trod_int he (e0.trans (by simpa using g0))
    obtain ⟨b, hb, _, wb⟩ := DataW.trod_int he (e1.trans (by simpa using g1))
    simp at ha hb
    subst ha hb
    exact ⟨a, b, rfl, wa, wb⟩
end Go.Proofs.YtaifjojfmkcmjaaDoorBase
