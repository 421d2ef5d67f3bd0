/-
  The row's other closed facts.
-/
import Derived.Test.YtogkkfdkeefjnaaGreatDoorA35
import Derived.SevenTiedAt
namespace Go.Proofs.YtogkkfdkeefjnaaGreatDoor.memberGroups
open Go.ChangeShapes Go.WideShapes Go.ChangeAt Go.RowKit
open Go
set_option linter.unusedVariables false
theorem b2 {a b : Bool} (ha : a = true) (hb : b = true) : (a && b) = true := by rw [ha, hb]; rfl
set_option maxRecDepth 100000 in
theorem closed : joinedFacts Tryz.prog 3 Tryz.f3 Rows.memberGroupsSpec Rows.memberGroupsRow = true := by
  unfold joinedFacts
  exact b2 (b2 (b2 (b2 (b2 (b2 (b2 (b2 (b2 (b2 (b2 (b2 (b2 (b2 (b2 (b2 (b2 (b2 (b2 (b2 (b2 (b2 (b2 (b2 (b2 (b2 (b2 (b2 (b2 (b2 (b2 k1 k2) k3) k4) k5) k6) k7) k8) k9) k10) k11) k12) k13) k14) k15) k16) k17) k18) k19) k20) k21) k22) k23) k24) k25) k26) k27) k28) k29) k30) k31) k32
theorem isNamed : Tryz.prog.funcNamed "conclave/conclavelaw17.MemberGroups" = some 3 := by kernel_rfl
theorem isInst : Tryz.f3.isInstance Tryz.prog Rows.memberGroupsRow.origin Rows.memberGroupsRow.targs := of_decide_eq_true (by kernel_rfl)
theorem isWrap : Tryz.f3.isWrapper Tryz.prog Rows.memberGroupsRow.wrapper Rows.memberGroupsRow.mainSum := by
  unfold Func.isWrapper
  rw [if_neg (by decide +kernel)]
  exact ⟨rfl, rfl⟩
theorem byText : Rows.memberGroupsRow.wfByText (OpenSpec.ofChange Rows.memberGroupsSpec) = true := by kernel_rfl
theorem mains : Tryz.prog.mainIs = some (true, "3eae1f01491637b9cf06640e62f5e8b4b3108477d925646485e6ad8c095a8d9e".toList) := by kernel_rfl
theorem looksNot : false = Tryz.prog.looks [] := by kernel_rfl
theorem goesNot : false = Rows.memberGroupsRow.goesBy Tryz.prog := by kernel_rfl
theorem wants : ([22].all fun u => !Tryz.prog.wantsStandIn u) = true := by kernel_rfl
end Go.Proofs.YtogkkfdkeefjnaaGreatDoor.memberGroups
