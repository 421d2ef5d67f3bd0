/-
  What the rows' listed variables give.
-/
import Derived.Test.YtogkkfdkeefjnaaGreatDoorRows
import Derived.Test.YtogkkfdkeefjnaaGreatDoorA01
import Derived.ProofKit
import Derived.LaidMore
import Derived.OpenShut
import Derived.Stop.Joined
import Derived.Stop.LaidErr
namespace Go.Proofs.YtogkkfdkeefjnaaGreatDoor.Term
open Go.ChangeShapes Go.WideShapes Go.ChangeAt Go.RowKit
set_option linter.unusedVariables false
set_option maxRecDepth 100000
set_option linter.unusedSimpArgs false
def laidL : List (String × DataW Unit) := [("math/bits.deBruijn32tab", Rows.laid_math_bits_deBruijn32tab), ("math/bits.deBruijn64tab", Rows.laid_math_bits_deBruijn64tab), ("internal/strconv.uint64pow10", Rows.laid_internal_strconv_uint64pow10)]
theorem gPow : Tryz.prog.globalNamed "internal/strconv.uint64pow10" = some 0 := by kernel_rfl
theorem gDeb : Tryz.prog.globalNamed "math/bits.deBruijn64tab" = some 2 := by kernel_rfl
theorem tPow:(Tryz.prog.globals[0]?).map (·.type)=some 529:=by kernel_rfl
theorem tDeb:(Tryz.prog.globals[2]?).map (·.type)=some 532:=by kernel_rfl
theorem pow_data:(Rows.laid_internal_strconv_uint64pow10:DataW Unit)=Lib.tabData .u64 Lib.pow10Tab:=by kernel_rfl
theorem deb_data:(Rows.laid_math_bits_deBruijn64tab:DataW Unit)=Lib.tabData .u8 deB:=by kernel_rfl
/-- The door's own heap meets the condition. -/
theorem door_met (os:Os) (args:Array Value):laidMetH Tryz.prog laidL ((World.doorLaid Tryz.prog 400 os).forCall (fun _ _=>0) ⟨#[],args,[]⟩).memory :=
 laidMetH_of_parts3 (fuel:=8) (laidMet_of_run' 8 (by kernel_rfl) (by kernel_rfl)) (by kernel_rfl) (by kernel_rfl)
theorem gl_of_laid {W:World} (h:laidMetH Tryz.prog laidL W):Gl W:=by
 rw [MakeChecks.laidMetH_plain _ _ _ (by kernel_rfl)] at h
 have h1:=laidMet.tail h
 have h2:=laidMet.tail h1
 rw [deb_data] at h1
 rw [pow_data] at h2
 exact ⟨Lib.tabIs_of_head gPow tPow Tryz.underlying529 Tryz.underlying497 (by kernel_rfl) (by kernel_rfl) h2,Lib.tabIs_of_head gDeb tDeb Tryz.underlying532 Tryz.underlying5 (by kernel_rfl) (by kernel_rfl) h1⟩
end Go.Proofs.YtogkkfdkeefjnaaGreatDoor.Term
