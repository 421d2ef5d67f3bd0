/-
  Plain lemmas that belong to no program: slices that came in, texts, integers.
-/
import Derived.Test.YtaifjojfmkcmjaaDoorBase
import Derived.IntWalk
import Derived.LoopTactic
namespace Go.Proofs.YtaifjojfmkcmjaaDoorBase
open Go.RowKit
set_option linter.unusedVariables false
set_option linter.unusedSimpArgs false

/-- A walk stops here. -/
def Hold (p : Prop) : Prop := p
theorem hold {p : Prop} (h : Hold p) : p := h

/-- A slice that came in, of one cell an element: it reads as xs. -/
structure RowIn (w : World) (A : Option Addr) (n : Nat) (xs : List Value) : Prop where
  len : n = xs.length
  max : n ≤ maxLen
  cell : 0 < n → ∃ b off, A = some ⟨b, off, none⟩ ∧ b < w.heap.size ∧ ∀ k u, xs[k]? = some u → w.cell? ⟨b, off + k, none⟩ = some u
theorem RowIn.below {w w' : World} {A : Option Addr} {n : Nat} {xs : List Value} (h : RowIn w A n xs) (hb : Below w.heap.size w w') : RowIn w' A n xs := by
  refine ⟨h.len, h.max, fun hn => ?_⟩
  obtain ⟨b, off, hA, hlt, hc⟩ := h.cell hn
  exact ⟨b, off, hA, Nat.lt_of_lt_of_le hlt hb.size, fun k u hu => (hb.cell (p := ⟨b, off + k, none⟩) hlt).trans (hc k u hu)⟩
/-- 's + t' of bytes and a text. -/
theorem run_add_bytes {P : Program} (x : List UInt8) (s : ByteArray) (h : x.length + s.size ≤ 9223372036854775807) (w : World) :
    (Op.stringOp .add ⟨x.toArray⟩ s).run P w = .ok (.string ⟨(x ++ s.data.toList).toArray⟩) w := by
  rw [run_string_add_sum w _ _ (by rw [size_mk]; exact h)]
  have e : (⟨x.toArray⟩ : ByteArray) ++ s = ⟨(x ++ s.data.toList).toArray⟩ := by
    apply ByteArray.ext
    simp [ByteArray.data_append]
  rw [e]

end Go.Proofs.YtaifjojfmkcmjaaDoorBase
