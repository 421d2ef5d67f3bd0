/-
  The row's closed facts, one by one.
-/
import Derived.Test.YtogkkfdkeefjnaaGreatDoorRows
import Derived.ProofKit
import Derived.KernelRfl
namespace Go.Proofs.YtogkkfdkeefjnaaGreatDoor.memberGroups
open Go.ChangeShapes Go.WideShapes Go.ChangeAt Go.RowKit
open Go
set_option linter.unusedVariables false
theorem k1 : (Rows.memberGroupsRow.wf (OpenSpec.ofChange Rows.memberGroupsSpec)) = true := by kernel_rfl
theorem k2 : (laidOutB Tryz.prog) = true := by kernel_rfl
theorem k3 : (mapsRowed Tryz.prog) = true := by kernel_rfl
theorem k4 : (Tryz.f3.params.all (Tryz.prog.readableRec ·)) = true := by kernel_rfl
theorem k5 : (namedTie Tryz.prog Rows.memberGroupsRow.named Rows.memberGroupsSpec.vars) = true := by kernel_rfl
theorem k6 : (Rows.memberGroupsRow.stops == []) = true := by kernel_rfl
theorem k7 : (Tryz.prog.stops == []) = true := by kernel_rfl
theorem k8 : (Rows.memberGroupsRow.knobs == []) = true := by kernel_rfl
theorem k9 : (Tryz.prog.stopKnobs == []) = true := by kernel_rfl
theorem k10 : (Rows.memberGroupsRow.inPlace == Tryz.prog.inPlace 3) = true := by kernel_rfl
theorem k11 : (Rows.memberGroupsRow.unfollowed == Tryz.prog.unfollowed 3) = true := by kernel_rfl
theorem k12 : (Rows.memberGroupsRow.recurses == Tryz.prog.recurses 3) = true := by kernel_rfl
theorem k13 : (Rows.memberGroupsRow.named == Tryz.prog.varsNamed 3) = true := by kernel_rfl
theorem k14 : (Rows.memberGroupsRow.maps == (Tryz.f3.params.toList ++ Rows.memberGroupsSpec.plain.varTypes Tryz.prog).any (Tryz.prog.mapsRec ·)) = true := by kernel_rfl
theorem k15 : (Rows.memberGroupsRow.ifaces == (Tryz.f3.params.toList ++ Rows.memberGroupsSpec.plain.varTypes Tryz.prog).any (Tryz.prog.ifacesRec ·)) = true := by kernel_rfl
theorem k16 : (Rows.memberGroupsRow.mapsOut == Tryz.prog.mapsAmong Tryz.f3.resultTypes.toList) = true := by kernel_rfl
theorem k17 : (Rows.memberGroupsRow.loops == (Tryz.f3.params.toList ++ Rows.memberGroupsSpec.plain.varTypes Tryz.prog).any (Tryz.prog.loopsFrom ·)) = true := by kernel_rfl
theorem k18 : (Rows.memberGroupsRow.wideKeys == (Tryz.f3.params.toList ++ Rows.memberGroupsSpec.plain.varTypes Tryz.prog ++ Tryz.f3.resultTypes.toList).any (Tryz.prog.wideKeysFrom ·)) = true := by kernel_rfl
theorem k19 : (Rows.memberGroupsSpec.vars.all (Tryz.prog.varReadable ·)) = true := by kernel_rfl
theorem k20 : (Tryz.f3.resultTypes.all (fun t => Tryz.prog.readableRec t && decide (t < Tryz.prog.types.size))) = true := by kernel_rfl
theorem k21 : (Rows.memberGroupsRow.ifacesOut == Tryz.f3.resultTypes.toList.any (Tryz.prog.ifacesRec ·)) = true := by kernel_rfl
theorem k22 : (Rows.memberGroupsRow.loopsOut == Tryz.f3.resultTypes.toList.any (Tryz.prog.loopsFrom ·)) = true := by kernel_rfl
theorem k23 : (Rows.memberGroupsRow.plainKeys == Tryz.prog.plainKeys) = true := by kernel_rfl
theorem k24 : (Rows.memberGroupsRow.shortTexts.isNone) = true := by kernel_rfl
theorem k25 : (Tryz.prog.stopsHeard) = true := by kernel_rfl
theorem k26 : (Tryz.prog.mayEnter) = true := by kernel_rfl
theorem k27 : (Rows.memberGroupsRow.lifted == Tryz.prog.liftsFinal) = true := by kernel_rfl
theorem k28 : (Tryz.prog.make == some Rows.memberGroupsRow.make) = true := by kernel_rfl
theorem k29 : (Rows.memberGroupsRow.kinds == (if Rows.memberGroupsRow.domain.isEmpty then [] else Tryz.f3.params.toList.map fun t => match Tryz.prog.underlying t with | some (.int k) => some k | _ => none)) = true := by kernel_rfl
theorem k30 : (Rows.memberGroupsRow.pinned == Rows.memberGroupsRow.pinnedBy) = true := by kernel_rfl
theorem k31 : (Rows.memberGroupsRow.veiled == (Tryz.f3.params.toList ++ Rows.memberGroupsSpec.plain.varTypes Tryz.prog ++ Tryz.f3.resultTypes.toList).any (Tryz.prog.veiledRec ·)) = true := by kernel_rfl
theorem k32 : (Rows.memberGroupsRow.veiledFits Tryz.prog Tryz.f3.params.toList (Tryz.f3.params.toList ++ Rows.memberGroupsSpec.plain.varTypes Tryz.prog ++ Tryz.f3.resultTypes.toList)) = true := by kernel_rfl
end Go.Proofs.YtogkkfdkeefjnaaGreatDoor.memberGroups
