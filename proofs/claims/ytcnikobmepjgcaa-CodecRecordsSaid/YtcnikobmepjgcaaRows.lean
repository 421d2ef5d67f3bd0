/-
  No cell of these rows narrows 'for every input' (looked for: loops, veiled, ifaces, maps, wideKeys, modest, calm, conditions, laid).
  DERIVED. THE GIVEN ROWS OF THIS SEAT. 9 by the template 'for every input the law returns true; each argument reads behind the call as it read before'; 0 by the template 'total and deterministic' (their statements: YtcnikobmepjgcaaTotals.lean).
  GIVEN WITH THE SEED: the statements are not yours to turn. If you find one false, say at which input.
  Laid BY PROGRAM, IN A SANDBOX (cutbox-rows.mjs): the forced cells as the released guide's own fill.sh prints them over the translation be0f66308b1e8c1e… (all of the seat's roots in one cut). By AI agents, Wed Nov 11 2026. No macro, syntax, notation, axiom, sorry.
-/
import Derived.Test.YtcnikobmepjgcaaChecked
import GoSem.Claim
import GoSem.ClaimJoined
import GoSem.ClaimMapViews
import Derived.JoinedTies
import Derived.KernelRfl
namespace Go.Proofs.Ytcnikobmepjgcaa
/- THE CELL 'sum', in the pinned program and in every row, IS THE sha256 OF THE DUMP (.gsa) THAT YtcnikobmepjgcaaProg.lean LOADS. Nothing in Lean hashes anything: it is a label: what it is worth is what the hold of that sum in a sandbox is worth. -/
noncomputable def Try.pinned : Pinned := { name := "ytcnikobmepjgcaa", sum := "be0f66308b1e8c1e978ea2c9c9a1b953890ea301a376169fa08e6a8d041e79f4", checked := Try.checked }
namespace Rows
def none {H : Type} : Left H := { results := [], args := [] }

/-- 'conclavelaw02.CodecNumbers': WHATEVER THE INPUT: true; the input reads as it did. -/
def codecNumbersSpec : ChangeSpec := { name := "codecNumbers", fn := fun _ => fun
  | [d1, d2] => { results := [.lit (.bool true)], args := [d1, d2] }
  | _ => none }
def codecNumbersRow : OpenClaim := { program := "ytcnikobmepjgcaa", sum := "be0f66308b1e8c1e978ea2c9c9a1b953890ea301a376169fa08e6a8d041e79f4", func := "conclave/conclavelaw02.CodecNumbers", spec := "codecNumbers", unfollowed := true, recurses := true, apart := false }
def CodecNumbersSaid : Prop := codecNumbersRow.holds Try.pinned (OpenSpec.ofChange codecNumbersSpec)

/-- ITS FALSE NEIGHBOUR: 'it returns false'. Refute it at one input. -/
def codecNumbersWrong : ChangeSpec := { name := "codecNumbers", fn := fun _ => fun
  | [d1, d2] => { results := [.lit (.bool false)], args := [d1, d2] }
  | _ => none }
def CodecNumbersWrongFalsely : Prop := codecNumbersRow.holds Try.pinned (OpenSpec.ofChange codecNumbersWrong)

/-- 'conclavelaw02.CodecSizes': WHATEVER THE INPUT: true; the input reads as it did. -/
def codecSizesSpec : ChangeSpec := { name := "codecSizes", fn := fun _ => fun
  | [d] => { results := [.lit (.bool true)], args := [d] }
  | _ => none }
def codecSizesRow : OpenClaim := { program := "ytcnikobmepjgcaa", sum := "be0f66308b1e8c1e978ea2c9c9a1b953890ea301a376169fa08e6a8d041e79f4", func := "conclave/conclavelaw02.CodecSizes", spec := "codecSizes", unfollowed := true, recurses := true, apart := false }
def CodecSizesSaid : Prop := codecSizesRow.holds Try.pinned (OpenSpec.ofChange codecSizesSpec)

/-- ITS FALSE NEIGHBOUR: 'it returns false'. Refute it at one input. -/
def codecSizesWrong : ChangeSpec := { name := "codecSizes", fn := fun _ => fun
  | [d] => { results := [.lit (.bool false)], args := [d] }
  | _ => none }
def CodecSizesWrongFalsely : Prop := codecSizesRow.holds Try.pinned (OpenSpec.ofChange codecSizesWrong)

/-- 'conclavelaw02.CodecCut': WHATEVER THE INPUT: true; the input reads as it did. -/
def codecCutSpec : ChangeSpec := { name := "codecCut", fn := fun _ => fun
  | [d1, d2] => { results := [.lit (.bool true)], args := [d1, d2] }
  | _ => none }
def codecCutRow : OpenClaim := { program := "ytcnikobmepjgcaa", sum := "be0f66308b1e8c1e978ea2c9c9a1b953890ea301a376169fa08e6a8d041e79f4", func := "conclave/conclavelaw02.CodecCut", spec := "codecCut", unfollowed := true, recurses := true, apart := false }
def CodecCutSaid : Prop := codecCutRow.holds Try.pinned (OpenSpec.ofChange codecCutSpec)

/-- ITS FALSE NEIGHBOUR: 'it returns false'. Refute it at one input. -/
def codecCutWrong : ChangeSpec := { name := "codecCut", fn := fun _ => fun
  | [d1, d2] => { results := [.lit (.bool false)], args := [d1, d2] }
  | _ => none }
def CodecCutWrongFalsely : Prop := codecCutRow.holds Try.pinned (OpenSpec.ofChange codecCutWrong)

/-- 'conclavelaw02.CodecOrder': WHATEVER THE INPUT: true; the input reads as it did. -/
def codecOrderSpec : ChangeSpec := { name := "codecOrder", fn := fun _ => fun
  | [d1, d2] => { results := [.lit (.bool true)], args := [d1, d2] }
  | _ => none }
def codecOrderRow : OpenClaim := { program := "ytcnikobmepjgcaa", sum := "be0f66308b1e8c1e978ea2c9c9a1b953890ea301a376169fa08e6a8d041e79f4", func := "conclave/conclavelaw02.CodecOrder", spec := "codecOrder", unfollowed := true, recurses := true, apart := false }
def CodecOrderSaid : Prop := codecOrderRow.holds Try.pinned (OpenSpec.ofChange codecOrderSpec)

/-- ITS FALSE NEIGHBOUR: 'it returns false'. Refute it at one input. -/
def codecOrderWrong : ChangeSpec := { name := "codecOrder", fn := fun _ => fun
  | [d1, d2] => { results := [.lit (.bool false)], args := [d1, d2] }
  | _ => none }
def CodecOrderWrongFalsely : Prop := codecOrderRow.holds Try.pinned (OpenSpec.ofChange codecOrderWrong)

/-- 'conclavelaw02.CodecOne': WHATEVER THE INPUT: true; the input reads as it did. -/
def codecOneSpec : ChangeSpec := { name := "codecOne", fn := fun _ => fun
  | [d] => { results := [.lit (.bool true)], args := [d] }
  | _ => none }
def codecOneRow : OpenClaim := { program := "ytcnikobmepjgcaa", sum := "be0f66308b1e8c1e978ea2c9c9a1b953890ea301a376169fa08e6a8d041e79f4", func := "conclave/conclavelaw02.CodecOne", spec := "codecOne", unfollowed := true, recurses := true, apart := false }
def CodecOneSaid : Prop := codecOneRow.holds Try.pinned (OpenSpec.ofChange codecOneSpec)

/-- ITS FALSE NEIGHBOUR: 'it returns false'. Refute it at one input. -/
def codecOneWrong : ChangeSpec := { name := "codecOne", fn := fun _ => fun
  | [d] => { results := [.lit (.bool false)], args := [d] }
  | _ => none }
def CodecOneWrongFalsely : Prop := codecOneRow.holds Try.pinned (OpenSpec.ofChange codecOneWrong)

/-- 'conclavelaw02.CodecReads': WHATEVER THE INPUT: true; the input reads as it did. -/
def codecReadsSpec : ChangeSpec := { name := "codecReads", fn := fun _ => fun
  | [d1, d2, d3] => { results := [.lit (.bool true)], args := [d1, d2, d3] }
  | _ => none }
def codecReadsRow : OpenClaim := { program := "ytcnikobmepjgcaa", sum := "be0f66308b1e8c1e978ea2c9c9a1b953890ea301a376169fa08e6a8d041e79f4", func := "conclave/conclavelaw02.CodecReads", spec := "codecReads", unfollowed := true, recurses := true, apart := false }
def CodecReadsSaid : Prop := codecReadsRow.holds Try.pinned (OpenSpec.ofChange codecReadsSpec)

/-- ITS FALSE NEIGHBOUR: 'it returns false'. Refute it at one input. -/
def codecReadsWrong : ChangeSpec := { name := "codecReads", fn := fun _ => fun
  | [d1, d2, d3] => { results := [.lit (.bool false)], args := [d1, d2, d3] }
  | _ => none }
def CodecReadsWrongFalsely : Prop := codecReadsRow.holds Try.pinned (OpenSpec.ofChange codecReadsWrong)

/-- 'conclavelaw02.CodecBack': WHATEVER THE INPUT: true; the input reads as it did. -/
def codecBackSpec : ChangeSpec := { name := "codecBack", fn := fun _ => fun
  | [d1, d2] => { results := [.lit (.bool true)], args := [d1, d2] }
  | _ => none }
def codecBackRow : OpenClaim := { program := "ytcnikobmepjgcaa", sum := "be0f66308b1e8c1e978ea2c9c9a1b953890ea301a376169fa08e6a8d041e79f4", func := "conclave/conclavelaw02.CodecBack", spec := "codecBack", unfollowed := true, recurses := true, apart := false }
def CodecBackSaid : Prop := codecBackRow.holds Try.pinned (OpenSpec.ofChange codecBackSpec)

/-- ITS FALSE NEIGHBOUR: 'it returns false'. Refute it at one input. -/
def codecBackWrong : ChangeSpec := { name := "codecBack", fn := fun _ => fun
  | [d1, d2] => { results := [.lit (.bool false)], args := [d1, d2] }
  | _ => none }
def CodecBackWrongFalsely : Prop := codecBackRow.holds Try.pinned (OpenSpec.ofChange codecBackWrong)

/-- 'conclavelaw02.CodecBounds': WHATEVER THE INPUT: true; the input reads as it did. -/
def codecBoundsSpec : ChangeSpec := { name := "codecBounds", fn := fun _ => fun
  | [d1, d2] => { results := [.lit (.bool true)], args := [d1, d2] }
  | _ => none }
def codecBoundsRow : OpenClaim := { program := "ytcnikobmepjgcaa", sum := "be0f66308b1e8c1e978ea2c9c9a1b953890ea301a376169fa08e6a8d041e79f4", func := "conclave/conclavelaw02.CodecBounds", spec := "codecBounds", unfollowed := true, recurses := true, apart := false }
def CodecBoundsSaid : Prop := codecBoundsRow.holds Try.pinned (OpenSpec.ofChange codecBoundsSpec)

/-- ITS FALSE NEIGHBOUR: 'it returns false'. Refute it at one input. -/
def codecBoundsWrong : ChangeSpec := { name := "codecBounds", fn := fun _ => fun
  | [d1, d2] => { results := [.lit (.bool false)], args := [d1, d2] }
  | _ => none }
def CodecBoundsWrongFalsely : Prop := codecBoundsRow.holds Try.pinned (OpenSpec.ofChange codecBoundsWrong)

/-- 'conclavelaw02.CodecRecords': WHATEVER THE INPUT: true; the input reads as it did. -/
def codecRecordsSpec : ChangeSpec := { name := "codecRecords", fn := fun _ => fun
  | [d1, d2] => { results := [.lit (.bool true)], args := [d1, d2] }
  | _ => none }
def codecRecordsRow : OpenClaim := { program := "ytcnikobmepjgcaa", sum := "be0f66308b1e8c1e978ea2c9c9a1b953890ea301a376169fa08e6a8d041e79f4", func := "conclave/conclavelaw02.CodecRecords", spec := "codecRecords", unfollowed := true, recurses := true, apart := false }
def CodecRecordsSaid : Prop := codecRecordsRow.holds Try.pinned (OpenSpec.ofChange codecRecordsSpec)

/-- ITS FALSE NEIGHBOUR: 'it returns false'. Refute it at one input. -/
def codecRecordsWrong : ChangeSpec := { name := "codecRecords", fn := fun _ => fun
  | [d1, d2] => { results := [.lit (.bool false)], args := [d1, d2] }
  | _ => none }
def CodecRecordsWrongFalsely : Prop := codecRecordsRow.holds Try.pinned (OpenSpec.ofChange codecRecordsWrong)

/- THE SECOND FORM. 'bulk': how many values and letters a reading holds, each counted each time it is reached (what is shared counts as often as it is met; a slice's spare places count too). A statement '..UptoSaid' is the law's where the arguments, and the package variables that the reading takes, are together of bulk at most 1048576: NARROWER than '..Said'. Prove '..Said' where nothing that the law and all that it calls make is longer than what came in: it says more and counts as full. Else prove '..UptoSaid'. A law counts once. -/
mutual
def uptoBulk {H : Type} : DataW H → Nat
  | .lit (.string bytes) => bytes.length + 1
  | .lit _ => 1
  | .nil => 1
  | .ptr d => uptoBulk d + 1
  | .slice elems spare => uptoBulkAll elems + uptoBulkAll spare + 1
  | .agg parts => uptoBulkAll parts + 1
  | .iface _ d => uptoBulk d + 1
  | .map entries => uptoBulkEntries entries + 1
  | .held _ => 1
def uptoBulkAll {H : Type} : List (DataW H) → Nat
  | [] => 0
  | d :: r => uptoBulk d + uptoBulkAll r
def uptoBulkEntries {H : Type} : List (Lit × DataW H) → Nat
  | [] => 0
  | x :: r => uptoBulkEntry x + uptoBulkEntries r
def uptoBulkEntry {H : Type} : Lit × DataW H → Nat
  | (.string bytes, d) => bytes.length + uptoBulk d + 1
  | (_, d) => uptoBulk d + 1
 end
def uptoSmall : (H : Type) → List (DataW H) → Bool := fun _ ds => decide (uptoBulkAll ds ≤ 1048576)
def OpenSpec.upto (s : _root_.Go.ChangeSpec) : _root_.Go.OpenSpec := { _root_.Go.OpenSpec.ofChange s with cond := some uptoSmall }

/-- 'conclavelaw02.CodecNumbers', WHERE WHAT IT READS IS OF BULK AT MOST 1048576: true; the input reads as it did. -/
def codecNumbersUptoRow : OpenClaim := { program := "ytcnikobmepjgcaa", sum := "be0f66308b1e8c1e978ea2c9c9a1b953890ea301a376169fa08e6a8d041e79f4", func := "conclave/conclavelaw02.CodecNumbers", spec := "codecNumbers", unfollowed := true, recurses := true, apart := false, narrowed := true }
def CodecNumbersUptoSaid : Prop := codecNumbersUptoRow.holds Try.pinned (OpenSpec.upto codecNumbersSpec)

/-- 'conclavelaw02.CodecSizes', WHERE WHAT IT READS IS OF BULK AT MOST 1048576: true; the input reads as it did. -/
def codecSizesUptoRow : OpenClaim := { program := "ytcnikobmepjgcaa", sum := "be0f66308b1e8c1e978ea2c9c9a1b953890ea301a376169fa08e6a8d041e79f4", func := "conclave/conclavelaw02.CodecSizes", spec := "codecSizes", unfollowed := true, recurses := true, apart := false, narrowed := true }
def CodecSizesUptoSaid : Prop := codecSizesUptoRow.holds Try.pinned (OpenSpec.upto codecSizesSpec)

/-- 'conclavelaw02.CodecCut', WHERE WHAT IT READS IS OF BULK AT MOST 1048576: true; the input reads as it did. -/
def codecCutUptoRow : OpenClaim := { program := "ytcnikobmepjgcaa", sum := "be0f66308b1e8c1e978ea2c9c9a1b953890ea301a376169fa08e6a8d041e79f4", func := "conclave/conclavelaw02.CodecCut", spec := "codecCut", unfollowed := true, recurses := true, apart := false, narrowed := true }
def CodecCutUptoSaid : Prop := codecCutUptoRow.holds Try.pinned (OpenSpec.upto codecCutSpec)

/-- 'conclavelaw02.CodecOrder', WHERE WHAT IT READS IS OF BULK AT MOST 1048576: true; the input reads as it did. -/
def codecOrderUptoRow : OpenClaim := { program := "ytcnikobmepjgcaa", sum := "be0f66308b1e8c1e978ea2c9c9a1b953890ea301a376169fa08e6a8d041e79f4", func := "conclave/conclavelaw02.CodecOrder", spec := "codecOrder", unfollowed := true, recurses := true, apart := false, narrowed := true }
def CodecOrderUptoSaid : Prop := codecOrderUptoRow.holds Try.pinned (OpenSpec.upto codecOrderSpec)

/-- 'conclavelaw02.CodecOne', WHERE WHAT IT READS IS OF BULK AT MOST 1048576: true; the input reads as it did. -/
def codecOneUptoRow : OpenClaim := { program := "ytcnikobmepjgcaa", sum := "be0f66308b1e8c1e978ea2c9c9a1b953890ea301a376169fa08e6a8d041e79f4", func := "conclave/conclavelaw02.CodecOne", spec := "codecOne", unfollowed := true, recurses := true, apart := false, narrowed := true }
def CodecOneUptoSaid : Prop := codecOneUptoRow.holds Try.pinned (OpenSpec.upto codecOneSpec)

/-- 'conclavelaw02.CodecReads', WHERE WHAT IT READS IS OF BULK AT MOST 1048576: true; the input reads as it did. -/
def codecReadsUptoRow : OpenClaim := { program := "ytcnikobmepjgcaa", sum := "be0f66308b1e8c1e978ea2c9c9a1b953890ea301a376169fa08e6a8d041e79f4", func := "conclave/conclavelaw02.CodecReads", spec := "codecReads", unfollowed := true, recurses := true, apart := false, narrowed := true }
def CodecReadsUptoSaid : Prop := codecReadsUptoRow.holds Try.pinned (OpenSpec.upto codecReadsSpec)

/-- 'conclavelaw02.CodecBack', WHERE WHAT IT READS IS OF BULK AT MOST 1048576: true; the input reads as it did. -/
def codecBackUptoRow : OpenClaim := { program := "ytcnikobmepjgcaa", sum := "be0f66308b1e8c1e978ea2c9c9a1b953890ea301a376169fa08e6a8d041e79f4", func := "conclave/conclavelaw02.CodecBack", spec := "codecBack", unfollowed := true, recurses := true, apart := false, narrowed := true }
def CodecBackUptoSaid : Prop := codecBackUptoRow.holds Try.pinned (OpenSpec.upto codecBackSpec)

/-- 'conclavelaw02.CodecBounds', WHERE WHAT IT READS IS OF BULK AT MOST 1048576: true; the input reads as it did. -/
def codecBoundsUptoRow : OpenClaim := { program := "ytcnikobmepjgcaa", sum := "be0f66308b1e8c1e978ea2c9c9a1b953890ea301a376169fa08e6a8d041e79f4", func := "conclave/conclavelaw02.CodecBounds", spec := "codecBounds", unfollowed := true, recurses := true, apart := false, narrowed := true }
def CodecBoundsUptoSaid : Prop := codecBoundsUptoRow.holds Try.pinned (OpenSpec.upto codecBoundsSpec)

/-- 'conclavelaw02.CodecRecords', WHERE WHAT IT READS IS OF BULK AT MOST 1048576: true; the input reads as it did. -/
def codecRecordsUptoRow : OpenClaim := { program := "ytcnikobmepjgcaa", sum := "be0f66308b1e8c1e978ea2c9c9a1b953890ea301a376169fa08e6a8d041e79f4", func := "conclave/conclavelaw02.CodecRecords", spec := "codecRecords", unfollowed := true, recurses := true, apart := false, narrowed := true }
def CodecRecordsUptoSaid : Prop := codecRecordsUptoRow.holds Try.pinned (OpenSpec.upto codecRecordsSpec)

end Rows
end Go.Proofs.Ytcnikobmepjgcaa
