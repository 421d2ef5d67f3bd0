/-
  MemberGroups, for whatever arguments: the law returns true, and each argument reads behind the call as it read before. No condition.
-/
import Derived.Test.YtogkkfdkeefjnaaGreatDoorA34
import Derived.Test.YtogkkfdkeefjnaaGreatDoorA36
import Derived.Test.YtogkkfdkeefjnaaGreatDoorTie
import Derived.Test.YtogkkfdkeefjnaaGreatDoorCards
import Derived.Stop.Joined
import Derived.LaidMore
namespace Go.Proofs.YtogkkfdkeefjnaaGreatDoor.memberGroups
open Go.ChangeShapes Go.WideShapes Go.ChangeAt Go.RowKit Go.Deep
open Go
open Go.Proofs.YtogkkfdkeefjnaaGreatDoorBase
set_option linter.unusedVariables false
theorem over : Rows.memberGroupsRow.holds Tryz.pinned (OpenSpec.ofChange Rows.memberGroupsSpec) :=
  OpenClaim.holds_of_wide 3 Tryz.f3 rfl rfl rfl rfl rfl rfl rfl ⟨rfl, rfl, rfl, rfl, rfl⟩ rfl rfl rfl rfl rfl isNamed Tryz.func3 closed isInst isWrap
    (fun os started H enc _ => lifted os started H enc)
theorem card : Rows.MemberGroupsCardSaid :=
  Claim7.holds_tied_plain_at .later [] [.data, .data, .data] true (true, "3eae1f01491637b9cf06640e62f5e8b4b3108477d925646485e6ad8c095a8d9e") false
    over (fun _ h => by cases h) byText (fun _ h => by cases h) memberGroups_row_tie rfl ⟨rfl, rfl⟩ mains rfl
    (fun f fn hf hfn => by
      obtain rfl : f = 3 := Option.some.inj (isNamed.symm.trans hf) |>.symm
      obtain rfl : fn = Tryz.f3 := (Option.some.inj (Tryz.func3.symm.trans hfn)).symm
      exact ⟨looksNot, fun j t ht => by
        rw [Tryz.params3] at ht
        have hm : t ∈ [22] := by simpa using Array.mem_of_getElem? ht
        exact (show Tryz.prog.wantsStandIn t = false by simpa using List.all_eq_true.1 wants t hm)⟩)
    goesNot
theorem proved : Rows.MemberGroupsCardSaid := card
#print axioms proved
end Go.Proofs.YtogkkfdkeefjnaaGreatDoor.memberGroups
