/-
  No cell of these rows narrows 'for every input' (looked for: loops, veiled, ifaces, maps, wideKeys, modest, calm, conditions, laid).
  DERIVED. THE GIVEN ROWS OF THIS SEAT. 6 by the template 'for every input the law returns true; each argument reads behind the call as it read before'; 0 by the template 'total and deterministic' (their statements: YtfbilfdohhcpgaaTotals.lean).
  GIVEN WITH THE SEED: the statements are not yours to turn. If you find one false, say at which input.
  Laid BY PROGRAM, IN A SANDBOX (cutbox-rows.mjs): the forced cells as the released guide's own fill.sh prints them over the translation ad52d3f69c6cc933… (all of the seat's roots in one cut). By AI agents, Wed Nov 11 2026. No macro, syntax, notation, axiom, sorry.
-/
import Derived.Test.YtfbilfdohhcpgaaChecked
import GoSem.Claim
import GoSem.ClaimJoined
import GoSem.ClaimMapViews
import Derived.JoinedTies
import Derived.KernelRfl
namespace Go.Proofs.Ytfbilfdohhcpgaa
/- THE CELL 'sum', in the pinned program and in every row, IS THE sha256 OF THE DUMP (.gsa) THAT YtfbilfdohhcpgaaProg.lean LOADS. Nothing in Lean hashes anything: it is a label: what it is worth is what the hold of that sum in a sandbox is worth. -/
noncomputable def Try.pinned : Pinned := { name := "ytfbilfdohhcpgaa", sum := "ad52d3f69c6cc933cb82140be0ac7200e7779bee3721bc72c2f5df8e03f57183", checked := Try.checked }
namespace Rows
def none {H : Type} : Left H := { results := [], args := [] }

/-- 'tarpaulinlaw1.ClockTells': WHATEVER THE INPUT: true; the input reads as it did. -/
def clockTellsSpec : ChangeSpec := { name := "clockTells", fn := fun _ => fun
  | [d1, d2, d3] => { results := [.lit (.bool true)], args := [d1, d2, d3] }
  | _ => none }
def clockTellsRow : OpenClaim := { program := "ytfbilfdohhcpgaa", sum := "ad52d3f69c6cc933cb82140be0ac7200e7779bee3721bc72c2f5df8e03f57183", func := "tarpaulin/tarpaulinlaw1.ClockTells", spec := "clockTells", apart := false }
def ClockTellsSaid : Prop := clockTellsRow.holds Try.pinned (OpenSpec.ofChange clockTellsSpec)

/-- ITS FALSE NEIGHBOUR: 'it returns false'. Refute it at one input. -/
def clockTellsWrong : ChangeSpec := { name := "clockTells", fn := fun _ => fun
  | [d1, d2, d3] => { results := [.lit (.bool false)], args := [d1, d2, d3] }
  | _ => none }
def ClockTellsWrongFalsely : Prop := clockTellsRow.holds Try.pinned (OpenSpec.ofChange clockTellsWrong)

/-- 'tarpaulinlaw1.ClockGoes': WHATEVER THE INPUT: true; the input reads as it did. -/
def clockGoesSpec : ChangeSpec := { name := "clockGoes", fn := fun _ => fun
  | [d] => { results := [.lit (.bool true)], args := [d] }
  | _ => none }
def clockGoesRow : OpenClaim := { program := "ytfbilfdohhcpgaa", sum := "ad52d3f69c6cc933cb82140be0ac7200e7779bee3721bc72c2f5df8e03f57183", func := "tarpaulin/tarpaulinlaw1.ClockGoes", spec := "clockGoes", apart := false }
def ClockGoesSaid : Prop := clockGoesRow.holds Try.pinned (OpenSpec.ofChange clockGoesSpec)

/-- ITS FALSE NEIGHBOUR: 'it returns false'. Refute it at one input. -/
def clockGoesWrong : ChangeSpec := { name := "clockGoes", fn := fun _ => fun
  | [d] => { results := [.lit (.bool false)], args := [d] }
  | _ => none }
def ClockGoesWrongFalsely : Prop := clockGoesRow.holds Try.pinned (OpenSpec.ofChange clockGoesWrong)

/-- 'tarpaulinlaw1.ClockRows': WHATEVER THE INPUT: true; the input reads as it did. -/
def clockRowsSpec : ChangeSpec := { name := "clockRows", fn := fun _ => fun
  | [d1, d2, d3] => { results := [.lit (.bool true)], args := [d1, d2, d3] }
  | _ => none }
def clockRowsRow : OpenClaim := { program := "ytfbilfdohhcpgaa", sum := "ad52d3f69c6cc933cb82140be0ac7200e7779bee3721bc72c2f5df8e03f57183", func := "tarpaulin/tarpaulinlaw1.ClockRows", spec := "clockRows", apart := false }
def ClockRowsSaid : Prop := clockRowsRow.holds Try.pinned (OpenSpec.ofChange clockRowsSpec)

/-- ITS FALSE NEIGHBOUR: 'it returns false'. Refute it at one input. -/
def clockRowsWrong : ChangeSpec := { name := "clockRows", fn := fun _ => fun
  | [d1, d2, d3] => { results := [.lit (.bool false)], args := [d1, d2, d3] }
  | _ => none }
def ClockRowsWrongFalsely : Prop := clockRowsRow.holds Try.pinned (OpenSpec.ofChange clockRowsWrong)

/-- 'tarpaulinlaw1.ClockHeld': WHATEVER THE INPUT: true; the input reads as it did. -/
def clockHeldSpec : ChangeSpec := { name := "clockHeld", fn := fun _ => fun
  | [d1, d2] => { results := [.lit (.bool true)], args := [d1, d2] }
  | _ => none }
def clockHeldRow : OpenClaim := { program := "ytfbilfdohhcpgaa", sum := "ad52d3f69c6cc933cb82140be0ac7200e7779bee3721bc72c2f5df8e03f57183", func := "tarpaulin/tarpaulinlaw1.ClockHeld", spec := "clockHeld", apart := false }
def ClockHeldSaid : Prop := clockHeldRow.holds Try.pinned (OpenSpec.ofChange clockHeldSpec)

/-- ITS FALSE NEIGHBOUR: 'it returns false'. Refute it at one input. -/
def clockHeldWrong : ChangeSpec := { name := "clockHeld", fn := fun _ => fun
  | [d1, d2] => { results := [.lit (.bool false)], args := [d1, d2] }
  | _ => none }
def ClockHeldWrongFalsely : Prop := clockHeldRow.holds Try.pinned (OpenSpec.ofChange clockHeldWrong)

/-- 'tarpaulinlaw1.ClockParts': WHATEVER THE INPUT: true; the input reads as it did. -/
def clockPartsSpec : ChangeSpec := { name := "clockParts", fn := fun _ => fun
  | [d] => { results := [.lit (.bool true)], args := [d] }
  | _ => none }
def clockPartsRow : OpenClaim := { program := "ytfbilfdohhcpgaa", sum := "ad52d3f69c6cc933cb82140be0ac7200e7779bee3721bc72c2f5df8e03f57183", func := "tarpaulin/tarpaulinlaw1.ClockParts", spec := "clockParts", apart := false }
def ClockPartsSaid : Prop := clockPartsRow.holds Try.pinned (OpenSpec.ofChange clockPartsSpec)

/-- ITS FALSE NEIGHBOUR: 'it returns false'. Refute it at one input. -/
def clockPartsWrong : ChangeSpec := { name := "clockParts", fn := fun _ => fun
  | [d] => { results := [.lit (.bool false)], args := [d] }
  | _ => none }
def ClockPartsWrongFalsely : Prop := clockPartsRow.holds Try.pinned (OpenSpec.ofChange clockPartsWrong)

/-- 'tarpaulinlaw1.ClockOrder': WHATEVER THE INPUT: true; the input reads as it did. -/
def clockOrderSpec : ChangeSpec := { name := "clockOrder", fn := fun _ => fun
  | [d1, d2] => { results := [.lit (.bool true)], args := [d1, d2] }
  | _ => none }
def clockOrderRow : OpenClaim := { program := "ytfbilfdohhcpgaa", sum := "ad52d3f69c6cc933cb82140be0ac7200e7779bee3721bc72c2f5df8e03f57183", func := "tarpaulin/tarpaulinlaw1.ClockOrder", spec := "clockOrder", apart := false }
def ClockOrderSaid : Prop := clockOrderRow.holds Try.pinned (OpenSpec.ofChange clockOrderSpec)

/-- ITS FALSE NEIGHBOUR: 'it returns false'. Refute it at one input. -/
def clockOrderWrong : ChangeSpec := { name := "clockOrder", fn := fun _ => fun
  | [d1, d2] => { results := [.lit (.bool false)], args := [d1, d2] }
  | _ => none }
def ClockOrderWrongFalsely : Prop := clockOrderRow.holds Try.pinned (OpenSpec.ofChange clockOrderWrong)

/- THE SECOND FORM. 'bulk': how many values and letters a reading holds, each counted each time it is reached (what is shared counts as often as it is met; a slice's spare places count too). A statement '..UptoSaid' is the law's where the arguments, and the package variables that the reading takes, are together of bulk at most 1048576: NARROWER than '..Said'. Prove '..Said' where nothing that the law and all that it calls make is longer than what came in: it says more and counts as full. Else prove '..UptoSaid'. A law counts once. -/
mutual
def uptoBulk {H : Type} : DataW H → Nat
  | .lit (.string bytes) => bytes.length + 1
  | .lit _ => 1
  | .nil => 1
  | .ptr d => uptoBulk d + 1
  | .slice elems spare => uptoBulkAll elems + uptoBulkAll spare + 1
  | .agg parts => uptoBulkAll parts + 1
  | .iface _ d => uptoBulk d + 1
  | .map entries => uptoBulkEntries entries + 1
  | .held _ => 1
def uptoBulkAll {H : Type} : List (DataW H) → Nat
  | [] => 0
  | d :: r => uptoBulk d + uptoBulkAll r
def uptoBulkEntries {H : Type} : List (Lit × DataW H) → Nat
  | [] => 0
  | x :: r => uptoBulkEntry x + uptoBulkEntries r
def uptoBulkEntry {H : Type} : Lit × DataW H → Nat
  | (.string bytes, d) => bytes.length + uptoBulk d + 1
  | (_, d) => uptoBulk d + 1
 end
def uptoSmall : (H : Type) → List (DataW H) → Bool := fun _ ds => decide (uptoBulkAll ds ≤ 1048576)
def OpenSpec.upto (s : _root_.Go.ChangeSpec) : _root_.Go.OpenSpec := { _root_.Go.OpenSpec.ofChange s with cond := some uptoSmall }

/-- 'tarpaulinlaw1.ClockTells', WHERE WHAT IT READS IS OF BULK AT MOST 1048576: true; the input reads as it did. -/
def clockTellsUptoRow : OpenClaim := { program := "ytfbilfdohhcpgaa", sum := "ad52d3f69c6cc933cb82140be0ac7200e7779bee3721bc72c2f5df8e03f57183", func := "tarpaulin/tarpaulinlaw1.ClockTells", spec := "clockTells", apart := false, narrowed := true }
def ClockTellsUptoSaid : Prop := clockTellsUptoRow.holds Try.pinned (OpenSpec.upto clockTellsSpec)

/-- 'tarpaulinlaw1.ClockGoes', WHERE WHAT IT READS IS OF BULK AT MOST 1048576: true; the input reads as it did. -/
def clockGoesUptoRow : OpenClaim := { program := "ytfbilfdohhcpgaa", sum := "ad52d3f69c6cc933cb82140be0ac7200e7779bee3721bc72c2f5df8e03f57183", func := "tarpaulin/tarpaulinlaw1.ClockGoes", spec := "clockGoes", apart := false, narrowed := true }
def ClockGoesUptoSaid : Prop := clockGoesUptoRow.holds Try.pinned (OpenSpec.upto clockGoesSpec)

/-- 'tarpaulinlaw1.ClockRows', WHERE WHAT IT READS IS OF BULK AT MOST 1048576: true; the input reads as it did. -/
def clockRowsUptoRow : OpenClaim := { program := "ytfbilfdohhcpgaa", sum := "ad52d3f69c6cc933cb82140be0ac7200e7779bee3721bc72c2f5df8e03f57183", func := "tarpaulin/tarpaulinlaw1.ClockRows", spec := "clockRows", apart := false, narrowed := true }
def ClockRowsUptoSaid : Prop := clockRowsUptoRow.holds Try.pinned (OpenSpec.upto clockRowsSpec)

/-- 'tarpaulinlaw1.ClockHeld', WHERE WHAT IT READS IS OF BULK AT MOST 1048576: true; the input reads as it did. -/
def clockHeldUptoRow : OpenClaim := { program := "ytfbilfdohhcpgaa", sum := "ad52d3f69c6cc933cb82140be0ac7200e7779bee3721bc72c2f5df8e03f57183", func := "tarpaulin/tarpaulinlaw1.ClockHeld", spec := "clockHeld", apart := false, narrowed := true }
def ClockHeldUptoSaid : Prop := clockHeldUptoRow.holds Try.pinned (OpenSpec.upto clockHeldSpec)

/-- 'tarpaulinlaw1.ClockParts', WHERE WHAT IT READS IS OF BULK AT MOST 1048576: true; the input reads as it did. -/
def clockPartsUptoRow : OpenClaim := { program := "ytfbilfdohhcpgaa", sum := "ad52d3f69c6cc933cb82140be0ac7200e7779bee3721bc72c2f5df8e03f57183", func := "tarpaulin/tarpaulinlaw1.ClockParts", spec := "clockParts", apart := false, narrowed := true }
def ClockPartsUptoSaid : Prop := clockPartsUptoRow.holds Try.pinned (OpenSpec.upto clockPartsSpec)

/-- 'tarpaulinlaw1.ClockOrder', WHERE WHAT IT READS IS OF BULK AT MOST 1048576: true; the input reads as it did. -/
def clockOrderUptoRow : OpenClaim := { program := "ytfbilfdohhcpgaa", sum := "ad52d3f69c6cc933cb82140be0ac7200e7779bee3721bc72c2f5df8e03f57183", func := "tarpaulin/tarpaulinlaw1.ClockOrder", spec := "clockOrder", apart := false, narrowed := true }
def ClockOrderUptoSaid : Prop := clockOrderUptoRow.holds Try.pinned (OpenSpec.upto clockOrderSpec)

end Rows
end Go.Proofs.Ytfbilfdohhcpgaa
