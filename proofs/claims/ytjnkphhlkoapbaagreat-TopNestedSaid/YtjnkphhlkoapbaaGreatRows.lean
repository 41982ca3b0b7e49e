/-
  No cell of these rows narrows 'for every input' (looked for: loops, veiled, ifaces, maps, wideKeys, modest, calm, conditions, laid).
  DERIVED. THE GIVEN ROWS OF THIS SEAT. 4 by the template 'for every input the law returns true; each argument reads behind the call as it read before'; 0 by the template 'total and deterministic' (their statements: YtjnkphhlkoapbaaGreatTotals.lean).
  GIVEN WITH THE SEED: the statements are not yours to turn. If you find one false, say at which input.
  Laid BY PROGRAM, IN A SANDBOX (cutbox-rows.mjs): the forced cells as the released guide's own fill.sh prints them over the translation 04ad20b42d3fcf1e… (all of the seat's roots in one cut). By AI agents, Wed Nov 11 2026. No macro, syntax, notation, axiom, sorry.
-/
import Derived.Test.YtjnkphhlkoapbaaGreatChecked
import GoSem.Claim
import GoSem.ClaimJoined
import GoSem.ClaimMapViews
import Derived.JoinedTies
import Derived.KernelRfl
namespace Go.Proofs.YtjnkphhlkoapbaaGreat
/- THE CELL 'sum', in the pinned program and in every row, IS THE sha256 OF THE DUMP (.gsa) THAT YtjnkphhlkoapbaaGreatProg.lean LOADS. Nothing in Lean hashes anything: it is a label: what it is worth is what the hold of that sum in a sandbox is worth. -/
noncomputable def Tryz.pinned : Pinned := { name := "ytjnkphhlkoapbaagreat", sum := "04ad20b42d3fcf1e81faa73f676509c2b54f6db2673e4d9d46b7eae1741a596a", checked := Tryz.checked }
namespace Rows
def none {H : Type} : Left H := { results := [], args := [] }

/-- 'tarpaulintop.TopCancels': WHATEVER THE INPUT: true; the input reads as it did. -/
def topCancelsSpec : ChangeSpec := { name := "topCancels", fn := fun _ => fun
  | [d1, d2, d3, d4] => { results := [.lit (.bool true)], args := [d1, d2, d3, d4] }
  | _ => none }
def topCancelsRow : OpenClaim := { program := "ytjnkphhlkoapbaagreat", sum := "04ad20b42d3fcf1e81faa73f676509c2b54f6db2673e4d9d46b7eae1741a596a", func := "tarpaulin/tarpaulintop.TopCancels", spec := "topCancels", unfollowed := true, recurses := true, apart := false }
def TopCancelsSaid : Prop := topCancelsRow.holds Tryz.pinned (OpenSpec.ofChange topCancelsSpec)

/-- ITS FALSE NEIGHBOUR: 'it returns false'. Refute it at one input. -/
def topCancelsWrong : ChangeSpec := { name := "topCancels", fn := fun _ => fun
  | [d1, d2, d3, d4] => { results := [.lit (.bool false)], args := [d1, d2, d3, d4] }
  | _ => none }
def TopCancelsWrongFalsely : Prop := topCancelsRow.holds Tryz.pinned (OpenSpec.ofChange topCancelsWrong)

/-- 'tarpaulintop.TopBarrier': WHATEVER THE INPUT: true; the input reads as it did. -/
def topBarrierSpec : ChangeSpec := { name := "topBarrier", fn := fun _ => fun
  | [d1, d2, d3] => { results := [.lit (.bool true)], args := [d1, d2, d3] }
  | _ => none }
def topBarrierRow : OpenClaim := { program := "ytjnkphhlkoapbaagreat", sum := "04ad20b42d3fcf1e81faa73f676509c2b54f6db2673e4d9d46b7eae1741a596a", func := "tarpaulin/tarpaulintop.TopBarrier", spec := "topBarrier", unfollowed := true, recurses := true, apart := false }
def TopBarrierSaid : Prop := topBarrierRow.holds Tryz.pinned (OpenSpec.ofChange topBarrierSpec)

/-- ITS FALSE NEIGHBOUR: 'it returns false'. Refute it at one input. -/
def topBarrierWrong : ChangeSpec := { name := "topBarrier", fn := fun _ => fun
  | [d1, d2, d3] => { results := [.lit (.bool false)], args := [d1, d2, d3] }
  | _ => none }
def TopBarrierWrongFalsely : Prop := topBarrierRow.holds Tryz.pinned (OpenSpec.ofChange topBarrierWrong)

/-- 'tarpaulintop.TopStops': WHATEVER THE INPUT: true; the input reads as it did. -/
def topStopsSpec : ChangeSpec := { name := "topStops", fn := fun _ => fun
  | [d1, d2, d3] => { results := [.lit (.bool true)], args := [d1, d2, d3] }
  | _ => none }
def topStopsRow : OpenClaim := { program := "ytjnkphhlkoapbaagreat", sum := "04ad20b42d3fcf1e81faa73f676509c2b54f6db2673e4d9d46b7eae1741a596a", func := "tarpaulin/tarpaulintop.TopStops", spec := "topStops", unfollowed := true, recurses := true, apart := false }
def TopStopsSaid : Prop := topStopsRow.holds Tryz.pinned (OpenSpec.ofChange topStopsSpec)

/-- ITS FALSE NEIGHBOUR: 'it returns false'. Refute it at one input. -/
def topStopsWrong : ChangeSpec := { name := "topStops", fn := fun _ => fun
  | [d1, d2, d3] => { results := [.lit (.bool false)], args := [d1, d2, d3] }
  | _ => none }
def TopStopsWrongFalsely : Prop := topStopsRow.holds Tryz.pinned (OpenSpec.ofChange topStopsWrong)

/-- 'tarpaulintop.TopNested': WHATEVER THE INPUT: true; the input reads as it did. -/
def topNestedSpec : ChangeSpec := { name := "topNested", fn := fun _ => fun
  | [d] => { results := [.lit (.bool true)], args := [d] }
  | _ => none }
def topNestedRow : OpenClaim := { program := "ytjnkphhlkoapbaagreat", sum := "04ad20b42d3fcf1e81faa73f676509c2b54f6db2673e4d9d46b7eae1741a596a", func := "tarpaulin/tarpaulintop.TopNested", spec := "topNested", unfollowed := true, recurses := true, apart := false }
def TopNestedSaid : Prop := topNestedRow.holds Tryz.pinned (OpenSpec.ofChange topNestedSpec)

/-- ITS FALSE NEIGHBOUR: 'it returns false'. Refute it at one input. -/
def topNestedWrong : ChangeSpec := { name := "topNested", fn := fun _ => fun
  | [d] => { results := [.lit (.bool false)], args := [d] }
  | _ => none }
def TopNestedWrongFalsely : Prop := topNestedRow.holds Tryz.pinned (OpenSpec.ofChange topNestedWrong)

/- THE SECOND FORM. 'bulk': how many values and letters a reading holds, each counted each time it is reached (what is shared counts as often as it is met; a slice's spare places count too). A statement '..UptoSaid' is the law's where the arguments, and the package variables that the reading takes, are together of bulk at most 1048576: NARROWER than '..Said'. Prove '..Said' where nothing that the law and all that it calls make is longer than what came in: it says more and counts as full. Else prove '..UptoSaid'. A law counts once. -/
mutual
def uptoBulk {H : Type} : DataW H → Nat
  | .lit (.string bytes) => bytes.length + 1
  | .lit _ => 1
  | .nil => 1
  | .ptr d => uptoBulk d + 1
  | .slice elems spare => uptoBulkAll elems + uptoBulkAll spare + 1
  | .agg parts => uptoBulkAll parts + 1
  | .iface _ d => uptoBulk d + 1
  | .map entries => uptoBulkEntries entries + 1
  | .held _ => 1
def uptoBulkAll {H : Type} : List (DataW H) → Nat
  | [] => 0
  | d :: r => uptoBulk d + uptoBulkAll r
def uptoBulkEntries {H : Type} : List (Lit × DataW H) → Nat
  | [] => 0
  | x :: r => uptoBulkEntry x + uptoBulkEntries r
def uptoBulkEntry {H : Type} : Lit × DataW H → Nat
  | (.string bytes, d) => bytes.length + uptoBulk d + 1
  | (_, d) => uptoBulk d + 1
 end
def uptoSmall : (H : Type) → List (DataW H) → Bool := fun _ ds => decide (uptoBulkAll ds ≤ 1048576)
def OpenSpec.upto (s : _root_.Go.ChangeSpec) : _root_.Go.OpenSpec := { _root_.Go.OpenSpec.ofChange s with cond := some uptoSmall }

/-- 'tarpaulintop.TopCancels', WHERE WHAT IT READS IS OF BULK AT MOST 1048576: true; the input reads as it did. -/
def topCancelsUptoRow : OpenClaim := { program := "ytjnkphhlkoapbaagreat", sum := "04ad20b42d3fcf1e81faa73f676509c2b54f6db2673e4d9d46b7eae1741a596a", func := "tarpaulin/tarpaulintop.TopCancels", spec := "topCancels", unfollowed := true, recurses := true, apart := false, narrowed := true }
def TopCancelsUptoSaid : Prop := topCancelsUptoRow.holds Tryz.pinned (OpenSpec.upto topCancelsSpec)

/-- 'tarpaulintop.TopBarrier', WHERE WHAT IT READS IS OF BULK AT MOST 1048576: true; the input reads as it did. -/
def topBarrierUptoRow : OpenClaim := { program := "ytjnkphhlkoapbaagreat", sum := "04ad20b42d3fcf1e81faa73f676509c2b54f6db2673e4d9d46b7eae1741a596a", func := "tarpaulin/tarpaulintop.TopBarrier", spec := "topBarrier", unfollowed := true, recurses := true, apart := false, narrowed := true }
def TopBarrierUptoSaid : Prop := topBarrierUptoRow.holds Tryz.pinned (OpenSpec.upto topBarrierSpec)

/-- 'tarpaulintop.TopStops', WHERE WHAT IT READS IS OF BULK AT MOST 1048576: true; the input reads as it did. -/
def topStopsUptoRow : OpenClaim := { program := "ytjnkphhlkoapbaagreat", sum := "04ad20b42d3fcf1e81faa73f676509c2b54f6db2673e4d9d46b7eae1741a596a", func := "tarpaulin/tarpaulintop.TopStops", spec := "topStops", unfollowed := true, recurses := true, apart := false, narrowed := true }
def TopStopsUptoSaid : Prop := topStopsUptoRow.holds Tryz.pinned (OpenSpec.upto topStopsSpec)

/-- 'tarpaulintop.TopNested', WHERE WHAT IT READS IS OF BULK AT MOST 1048576: true; the input reads as it did. -/
def topNestedUptoRow : OpenClaim := { program := "ytjnkphhlkoapbaagreat", sum := "04ad20b42d3fcf1e81faa73f676509c2b54f6db2673e4d9d46b7eae1741a596a", func := "tarpaulin/tarpaulintop.TopNested", spec := "topNested", unfollowed := true, recurses := true, apart := false, narrowed := true }
def TopNestedUptoSaid : Prop := topNestedUptoRow.holds Tryz.pinned (OpenSpec.upto topNestedSpec)

end Rows
end Go.Proofs.YtjnkphhlkoapbaaGreat
