/-
  What the rows' listed variables give.
-/
import Derived.Test.YtaifjojfmkcmjaaDoorRows
import Derived.Test.YtaifjojfmkcmjaaDoorTerm1
import Derived.ProofKit
import Derived.LaidMore
import Derived.OpenShut
import Derived.Stop.Joined
import Derived.Stop.LaidErr
namespace Go.Proofs.YtaifjojfmkcmjaaDoor.Term
open Go.ChangeShapes Go.WideShapes Go.ChangeAt Go.RowKit
set_option linter.unusedVariables false
set_option linter.unusedSimpArgs false

def laidL : List (String × DataW Unit) := [("math/bits.deBruijn32tab", Rows.laid_math_bits_deBruijn32tab), ("math/bits.deBruijn64tab", Rows.laid_math_bits_deBruijn64tab), ("internal/strconv.uint64pow10", Rows.laid_internal_strconv_uint64pow10), ("strconv.ErrRange", Rows.laid_strconv_ErrRange), ("strconv.ErrSyntax", Rows.laid_strconv_ErrSyntax)]
theorem gPow : Tryd.prog.globalNamed "internal/strconv.uint64pow10" = some 2 := by kernel_rfl
theorem gRange : Tryd.prog.globalNamed "strconv.ErrRange" = some 1 := by kernel_rfl
theorem gSyn : Tryd.prog.globalNamed "strconv.ErrSyntax" = some 0 := by kernel_rfl
theorem tPow : (Tryd.prog.globals[2]?).map (·.type) = some 135 := by kernel_rfl
theorem tRange : (Tryd.prog.globals[1]?).map (·.type) = some 85 := by kernel_rfl
theorem tSyn : (Tryd.prog.globals[0]?).map (·.type) = some 85 := by kernel_rfl
theorem star : "*" ++ "errors.errorString" = "*errors.errorString" := by decide
theorem rowErr (u : TypeId) (h : Tryd.prog.typeName? 3 u = some "*errors.errorString") : u = 131 :=
  typeName_ptr_named (nm := "errors.errorString") (by rw [star]; kernel_rfl) (by kernel_rfl) (by decide) u (by rw [star]; exact h)
theorem pow_data : (Rows.laid_internal_strconv_uint64pow10 : DataW Unit) = Lib.tabData .u64 Lib.pow10Tab := by kernel_rfl

/-- The door's own heap meets the condition. -/
theorem door_met (os : Os) (args : Array Value) : laidMetH Tryd.prog laidL ((World.doorLaid Tryd.prog 400 os).forCall (fun _ _ => 0) ⟨#[], args, []⟩).memory :=
  laidMetH_of_parts3 (fuel := 8) (laidMet_of_run' 8 (by kernel_rfl) (by kernel_rfl)) (by kernel_rfl) (by kernel_rfl)
theorem gl_of_laid {W : World} (h : laidMetH Tryd.prog laidL W) : Gl W := by
  rw [MakeChecks.laidMetH_plain _ _ _ (by kernel_rfl)] at h
  have h2 := laidMet.tail (laidMet.tail h)
  have h3 := laidMet.tail h2
  have h4 := laidMet.tail h3
  obtain ⟨a, s, hv, _⟩ := laid_sentinel h3 gRange tRange Tryd.underlying85 rowErr Tryd.underlying131 Tryd.underlying133 rfl rfl Tryd.underlying9 (by kernel_rfl) (by kernel_rfl)
  obtain ⟨b, t, hw, _⟩ := laid_sentinel h4 gSyn tSyn Tryd.underlying85 rowErr Tryd.underlying131 Tryd.underlying133 rfl rfl Tryd.underlying9 (by kernel_rfl) (by kernel_rfl)
  rw [pow_data] at h2
  exact ⟨Lib.tabIs_of_head gPow tPow Tryd.underlying135 Tryd.underlying115 (by kernel_rfl) (by kernel_rfl) h2, ⟨_, _, hw⟩, ⟨_, _, hv⟩⟩
end Go.Proofs.YtaifjojfmkcmjaaDoor.Term
