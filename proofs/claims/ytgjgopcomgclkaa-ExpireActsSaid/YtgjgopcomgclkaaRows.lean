/-
  No cell of these rows narrows 'for every input' (looked for: loops, veiled, ifaces, maps, wideKeys, modest, calm, conditions, laid).
  DERIVED. THE GIVEN ROWS OF THIS SEAT. 12 by the template 'for every input the law returns true; each argument reads behind the call as it read before'; 0 by the template 'total and deterministic' (their statements: YtgjgopcomgclkaaTotals.lean).
  GIVEN WITH THE SEED: the statements are not yours to turn. If you find one false, say at which input.
  Laid BY PROGRAM, IN A SANDBOX (cutbox-rows.mjs): the forced cells as the released guide's own fill.sh prints them over the translation ad6ecf04ced2a64a… (all of the seat's roots in one cut). By AI agents, Wed Nov 11 2026. No macro, syntax, notation, axiom, sorry.
-/
import Derived.Test.YtgjgopcomgclkaaChecked
import GoSem.Claim
import GoSem.ClaimJoined
import GoSem.ClaimMapViews
import Derived.JoinedTies
import Derived.KernelRfl
namespace Go.Proofs.Ytgjgopcomgclkaa
/- THE CELL 'sum', in the pinned program and in every row, IS THE sha256 OF THE DUMP (.gsa) THAT YtgjgopcomgclkaaProg.lean LOADS. Nothing in Lean hashes anything: it is a label: what it is worth is what the hold of that sum in a sandbox is worth. -/
noncomputable def Try.pinned : Pinned := { name := "ytgjgopcomgclkaa", sum := "ad6ecf04ced2a64a909da2b6ec7dc641cc28a0a08aaf2f97a5a48dfcb1ba59ef", checked := Try.checked }
namespace Rows
def none {H : Type} : Left H := { results := [], args := [] }

/-- 'tarpaulinlaw11.HeapSorts': WHATEVER THE INPUT: true; the input reads as it did. -/
def heapSortsSpec : ChangeSpec := { name := "heapSorts", fn := fun _ => fun
  | [d] => { results := [.lit (.bool true)], args := [d] }
  | _ => none }
def heapSortsRow : OpenClaim := { program := "ytgjgopcomgclkaa", sum := "ad6ecf04ced2a64a909da2b6ec7dc641cc28a0a08aaf2f97a5a48dfcb1ba59ef", func := "tarpaulin/tarpaulinlaw11.HeapSorts", spec := "heapSorts", apart := false }
def HeapSortsSaid : Prop := heapSortsRow.holds Try.pinned (OpenSpec.ofChange heapSortsSpec)

/-- ITS FALSE NEIGHBOUR: 'it returns false'. Refute it at one input. -/
def heapSortsWrong : ChangeSpec := { name := "heapSorts", fn := fun _ => fun
  | [d] => { results := [.lit (.bool false)], args := [d] }
  | _ => none }
def HeapSortsWrongFalsely : Prop := heapSortsRow.holds Try.pinned (OpenSpec.ofChange heapSortsWrong)

/-- 'tarpaulinlaw11.HeapTies': WHATEVER THE INPUT: true; the input reads as it did. -/
def heapTiesSpec : ChangeSpec := { name := "heapTies", fn := fun _ => fun
  | [d1, d2, d3] => { results := [.lit (.bool true)], args := [d1, d2, d3] }
  | _ => none }
def heapTiesRow : OpenClaim := { program := "ytgjgopcomgclkaa", sum := "ad6ecf04ced2a64a909da2b6ec7dc641cc28a0a08aaf2f97a5a48dfcb1ba59ef", func := "tarpaulin/tarpaulinlaw11.HeapTies", spec := "heapTies", apart := false }
def HeapTiesSaid : Prop := heapTiesRow.holds Try.pinned (OpenSpec.ofChange heapTiesSpec)

/-- ITS FALSE NEIGHBOUR: 'it returns false'. Refute it at one input. -/
def heapTiesWrong : ChangeSpec := { name := "heapTies", fn := fun _ => fun
  | [d1, d2, d3] => { results := [.lit (.bool false)], args := [d1, d2, d3] }
  | _ => none }
def HeapTiesWrongFalsely : Prop := heapTiesRow.holds Try.pinned (OpenSpec.ofChange heapTiesWrong)

/-- 'tarpaulinlaw11.HeapFour': WHATEVER THE INPUT: true; the input reads as it did. -/
def heapFourSpec : ChangeSpec := { name := "heapFour", fn := fun _ => fun
  | [d1, d2] => { results := [.lit (.bool true)], args := [d1, d2] }
  | _ => none }
def heapFourRow : OpenClaim := { program := "ytgjgopcomgclkaa", sum := "ad6ecf04ced2a64a909da2b6ec7dc641cc28a0a08aaf2f97a5a48dfcb1ba59ef", func := "tarpaulin/tarpaulinlaw11.HeapFour", spec := "heapFour", apart := false }
def HeapFourSaid : Prop := heapFourRow.holds Try.pinned (OpenSpec.ofChange heapFourSpec)

/-- ITS FALSE NEIGHBOUR: 'it returns false'. Refute it at one input. -/
def heapFourWrong : ChangeSpec := { name := "heapFour", fn := fun _ => fun
  | [d1, d2] => { results := [.lit (.bool false)], args := [d1, d2] }
  | _ => none }
def HeapFourWrongFalsely : Prop := heapFourRow.holds Try.pinned (OpenSpec.ofChange heapFourWrong)

/-- 'tarpaulinlaw12.ExpireActs': WHATEVER THE INPUT: true; the input reads as it did. -/
def expireActsSpec : ChangeSpec := { name := "expireActs", fn := fun _ => fun
  | [d] => { results := [.lit (.bool true)], args := [d] }
  | _ => none }
def expireActsRow : OpenClaim := { program := "ytgjgopcomgclkaa", sum := "ad6ecf04ced2a64a909da2b6ec7dc641cc28a0a08aaf2f97a5a48dfcb1ba59ef", func := "tarpaulin/tarpaulinlaw12.ExpireActs", spec := "expireActs", apart := false }
def ExpireActsSaid : Prop := expireActsRow.holds Try.pinned (OpenSpec.ofChange expireActsSpec)

/-- ITS FALSE NEIGHBOUR: 'it returns false'. Refute it at one input. -/
def expireActsWrong : ChangeSpec := { name := "expireActs", fn := fun _ => fun
  | [d] => { results := [.lit (.bool false)], args := [d] }
  | _ => none }
def ExpireActsWrongFalsely : Prop := expireActsRow.holds Try.pinned (OpenSpec.ofChange expireActsWrong)

/-- 'tarpaulinlaw12.ExpireOnce': WHATEVER THE INPUT: true; the input reads as it did. -/
def expireOnceSpec : ChangeSpec := { name := "expireOnce", fn := fun _ => fun
  | [d1, d2, d3] => { results := [.lit (.bool true)], args := [d1, d2, d3] }
  | _ => none }
def expireOnceRow : OpenClaim := { program := "ytgjgopcomgclkaa", sum := "ad6ecf04ced2a64a909da2b6ec7dc641cc28a0a08aaf2f97a5a48dfcb1ba59ef", func := "tarpaulin/tarpaulinlaw12.ExpireOnce", spec := "expireOnce", apart := false }
def ExpireOnceSaid : Prop := expireOnceRow.holds Try.pinned (OpenSpec.ofChange expireOnceSpec)

/-- ITS FALSE NEIGHBOUR: 'it returns false'. Refute it at one input. -/
def expireOnceWrong : ChangeSpec := { name := "expireOnce", fn := fun _ => fun
  | [d1, d2, d3] => { results := [.lit (.bool false)], args := [d1, d2, d3] }
  | _ => none }
def ExpireOnceWrongFalsely : Prop := expireOnceRow.holds Try.pinned (OpenSpec.ofChange expireOnceWrong)

/-- 'tarpaulinlaw12.ExpireRows': WHATEVER THE INPUT: true; the input reads as it did. -/
def expireRowsSpec : ChangeSpec := { name := "expireRows", fn := fun _ => fun
  | [d1, d2, d3] => { results := [.lit (.bool true)], args := [d1, d2, d3] }
  | _ => none }
def expireRowsRow : OpenClaim := { program := "ytgjgopcomgclkaa", sum := "ad6ecf04ced2a64a909da2b6ec7dc641cc28a0a08aaf2f97a5a48dfcb1ba59ef", func := "tarpaulin/tarpaulinlaw12.ExpireRows", spec := "expireRows", apart := false }
def ExpireRowsSaid : Prop := expireRowsRow.holds Try.pinned (OpenSpec.ofChange expireRowsSpec)

/-- ITS FALSE NEIGHBOUR: 'it returns false'. Refute it at one input. -/
def expireRowsWrong : ChangeSpec := { name := "expireRows", fn := fun _ => fun
  | [d1, d2, d3] => { results := [.lit (.bool false)], args := [d1, d2, d3] }
  | _ => none }
def ExpireRowsWrongFalsely : Prop := expireRowsRow.holds Try.pinned (OpenSpec.ofChange expireRowsWrong)

/-- 'tarpaulinlaw12.ExpireAnew': WHATEVER THE INPUT: true; the input reads as it did. -/
def expireAnewSpec : ChangeSpec := { name := "expireAnew", fn := fun _ => fun
  | [d1, d2, d3, d4] => { results := [.lit (.bool true)], args := [d1, d2, d3, d4] }
  | _ => none }
def expireAnewRow : OpenClaim := { program := "ytgjgopcomgclkaa", sum := "ad6ecf04ced2a64a909da2b6ec7dc641cc28a0a08aaf2f97a5a48dfcb1ba59ef", func := "tarpaulin/tarpaulinlaw12.ExpireAnew", spec := "expireAnew", apart := false }
def ExpireAnewSaid : Prop := expireAnewRow.holds Try.pinned (OpenSpec.ofChange expireAnewSpec)

/-- ITS FALSE NEIGHBOUR: 'it returns false'. Refute it at one input. -/
def expireAnewWrong : ChangeSpec := { name := "expireAnew", fn := fun _ => fun
  | [d1, d2, d3, d4] => { results := [.lit (.bool false)], args := [d1, d2, d3, d4] }
  | _ => none }
def ExpireAnewWrongFalsely : Prop := expireAnewRow.holds Try.pinned (OpenSpec.ofChange expireAnewWrong)

/-- 'tarpaulinlaw12.ExpireNever': WHATEVER THE INPUT: true; the input reads as it did. -/
def expireNeverSpec : ChangeSpec := { name := "expireNever", fn := fun _ => fun
  | [d1, d2, d3] => { results := [.lit (.bool true)], args := [d1, d2, d3] }
  | _ => none }
def expireNeverRow : OpenClaim := { program := "ytgjgopcomgclkaa", sum := "ad6ecf04ced2a64a909da2b6ec7dc641cc28a0a08aaf2f97a5a48dfcb1ba59ef", func := "tarpaulin/tarpaulinlaw12.ExpireNever", spec := "expireNever", apart := false }
def ExpireNeverSaid : Prop := expireNeverRow.holds Try.pinned (OpenSpec.ofChange expireNeverSpec)

/-- ITS FALSE NEIGHBOUR: 'it returns false'. Refute it at one input. -/
def expireNeverWrong : ChangeSpec := { name := "expireNever", fn := fun _ => fun
  | [d1, d2, d3] => { results := [.lit (.bool false)], args := [d1, d2, d3] }
  | _ => none }
def ExpireNeverWrongFalsely : Prop := expireNeverRow.holds Try.pinned (OpenSpec.ofChange expireNeverWrong)

/-- 'tarpaulinlaw12.ExpireHeld': WHATEVER THE INPUT: true; the input reads as it did. -/
def expireHeldSpec : ChangeSpec := { name := "expireHeld", fn := fun _ => fun
  | [d1, d2] => { results := [.lit (.bool true)], args := [d1, d2] }
  | _ => none }
def expireHeldRow : OpenClaim := { program := "ytgjgopcomgclkaa", sum := "ad6ecf04ced2a64a909da2b6ec7dc641cc28a0a08aaf2f97a5a48dfcb1ba59ef", func := "tarpaulin/tarpaulinlaw12.ExpireHeld", spec := "expireHeld", apart := false }
def ExpireHeldSaid : Prop := expireHeldRow.holds Try.pinned (OpenSpec.ofChange expireHeldSpec)

/-- ITS FALSE NEIGHBOUR: 'it returns false'. Refute it at one input. -/
def expireHeldWrong : ChangeSpec := { name := "expireHeld", fn := fun _ => fun
  | [d1, d2] => { results := [.lit (.bool false)], args := [d1, d2] }
  | _ => none }
def ExpireHeldWrongFalsely : Prop := expireHeldRow.holds Try.pinned (OpenSpec.ofChange expireHeldWrong)

/-- 'tarpaulinlaw11.HeapActs': WHATEVER THE INPUT: true; the input reads as it did. -/
def heapActsSpec : ChangeSpec := { name := "heapActs", fn := fun _ => fun
  | [d] => { results := [.lit (.bool true)], args := [d] }
  | _ => none }
def heapActsRow : OpenClaim := { program := "ytgjgopcomgclkaa", sum := "ad6ecf04ced2a64a909da2b6ec7dc641cc28a0a08aaf2f97a5a48dfcb1ba59ef", func := "tarpaulin/tarpaulinlaw11.HeapActs", spec := "heapActs", unfollowed := true, recurses := true, apart := false }
def HeapActsSaid : Prop := heapActsRow.holds Try.pinned (OpenSpec.ofChange heapActsSpec)

/-- ITS FALSE NEIGHBOUR: 'it returns false'. Refute it at one input. -/
def heapActsWrong : ChangeSpec := { name := "heapActs", fn := fun _ => fun
  | [d] => { results := [.lit (.bool false)], args := [d] }
  | _ => none }
def HeapActsWrongFalsely : Prop := heapActsRow.holds Try.pinned (OpenSpec.ofChange heapActsWrong)

/-- 'tarpaulinlaw11.HeapMoves': WHATEVER THE INPUT: true; the input reads as it did. -/
def heapMovesSpec : ChangeSpec := { name := "heapMoves", fn := fun _ => fun
  | [d1, d2, d3] => { results := [.lit (.bool true)], args := [d1, d2, d3] }
  | _ => none }
def heapMovesRow : OpenClaim := { program := "ytgjgopcomgclkaa", sum := "ad6ecf04ced2a64a909da2b6ec7dc641cc28a0a08aaf2f97a5a48dfcb1ba59ef", func := "tarpaulin/tarpaulinlaw11.HeapMoves", spec := "heapMoves", unfollowed := true, recurses := true, apart := false }
def HeapMovesSaid : Prop := heapMovesRow.holds Try.pinned (OpenSpec.ofChange heapMovesSpec)

/-- ITS FALSE NEIGHBOUR: 'it returns false'. Refute it at one input. -/
def heapMovesWrong : ChangeSpec := { name := "heapMoves", fn := fun _ => fun
  | [d1, d2, d3] => { results := [.lit (.bool false)], args := [d1, d2, d3] }
  | _ => none }
def HeapMovesWrongFalsely : Prop := heapMovesRow.holds Try.pinned (OpenSpec.ofChange heapMovesWrong)

/-- 'tarpaulinlaw11.HeapRemoves': WHATEVER THE INPUT: true; the input reads as it did. -/
def heapRemovesSpec : ChangeSpec := { name := "heapRemoves", fn := fun _ => fun
  | [d1, d2] => { results := [.lit (.bool true)], args := [d1, d2] }
  | _ => none }
def heapRemovesRow : OpenClaim := { program := "ytgjgopcomgclkaa", sum := "ad6ecf04ced2a64a909da2b6ec7dc641cc28a0a08aaf2f97a5a48dfcb1ba59ef", func := "tarpaulin/tarpaulinlaw11.HeapRemoves", spec := "heapRemoves", unfollowed := true, recurses := true, apart := false }
def HeapRemovesSaid : Prop := heapRemovesRow.holds Try.pinned (OpenSpec.ofChange heapRemovesSpec)

/-- ITS FALSE NEIGHBOUR: 'it returns false'. Refute it at one input. -/
def heapRemovesWrong : ChangeSpec := { name := "heapRemoves", fn := fun _ => fun
  | [d1, d2] => { results := [.lit (.bool false)], args := [d1, d2] }
  | _ => none }
def HeapRemovesWrongFalsely : Prop := heapRemovesRow.holds Try.pinned (OpenSpec.ofChange heapRemovesWrong)

/- THE SECOND FORM. 'bulk': how many values and letters a reading holds, each counted each time it is reached (what is shared counts as often as it is met; a slice's spare places count too). A statement '..UptoSaid' is the law's where the arguments, and the package variables that the reading takes, are together of bulk at most 1048576: NARROWER than '..Said'. Prove '..Said' where nothing that the law and all that it calls make is longer than what came in: it says more and counts as full. Else prove '..UptoSaid'. A law counts once. -/
mutual
def uptoBulk {H : Type} : DataW H → Nat
  | .lit (.string bytes) => bytes.length + 1
  | .lit _ => 1
  | .nil => 1
  | .ptr d => uptoBulk d + 1
  | .slice elems spare => uptoBulkAll elems + uptoBulkAll spare + 1
  | .agg parts => uptoBulkAll parts + 1
  | .iface _ d => uptoBulk d + 1
  | .map entries => uptoBulkEntries entries + 1
  | .held _ => 1
def uptoBulkAll {H : Type} : List (DataW H) → Nat
  | [] => 0
  | d :: r => uptoBulk d + uptoBulkAll r
def uptoBulkEntries {H : Type} : List (Lit × DataW H) → Nat
  | [] => 0
  | x :: r => uptoBulkEntry x + uptoBulkEntries r
def uptoBulkEntry {H : Type} : Lit × DataW H → Nat
  | (.string bytes, d) => bytes.length + uptoBulk d + 1
  | (_, d) => uptoBulk d + 1
 end
def uptoSmall : (H : Type) → List (DataW H) → Bool := fun _ ds => decide (uptoBulkAll ds ≤ 1048576)
def OpenSpec.upto (s : _root_.Go.ChangeSpec) : _root_.Go.OpenSpec := { _root_.Go.OpenSpec.ofChange s with cond := some uptoSmall }

/-- 'tarpaulinlaw11.HeapSorts', WHERE WHAT IT READS IS OF BULK AT MOST 1048576: true; the input reads as it did. -/
def heapSortsUptoRow : OpenClaim := { program := "ytgjgopcomgclkaa", sum := "ad6ecf04ced2a64a909da2b6ec7dc641cc28a0a08aaf2f97a5a48dfcb1ba59ef", func := "tarpaulin/tarpaulinlaw11.HeapSorts", spec := "heapSorts", apart := false, narrowed := true }
def HeapSortsUptoSaid : Prop := heapSortsUptoRow.holds Try.pinned (OpenSpec.upto heapSortsSpec)

/-- 'tarpaulinlaw11.HeapTies', WHERE WHAT IT READS IS OF BULK AT MOST 1048576: true; the input reads as it did. -/
def heapTiesUptoRow : OpenClaim := { program := "ytgjgopcomgclkaa", sum := "ad6ecf04ced2a64a909da2b6ec7dc641cc28a0a08aaf2f97a5a48dfcb1ba59ef", func := "tarpaulin/tarpaulinlaw11.HeapTies", spec := "heapTies", apart := false, narrowed := true }
def HeapTiesUptoSaid : Prop := heapTiesUptoRow.holds Try.pinned (OpenSpec.upto heapTiesSpec)

/-- 'tarpaulinlaw11.HeapFour', WHERE WHAT IT READS IS OF BULK AT MOST 1048576: true; the input reads as it did. -/
def heapFourUptoRow : OpenClaim := { program := "ytgjgopcomgclkaa", sum := "ad6ecf04ced2a64a909da2b6ec7dc641cc28a0a08aaf2f97a5a48dfcb1ba59ef", func := "tarpaulin/tarpaulinlaw11.HeapFour", spec := "heapFour", apart := false, narrowed := true }
def HeapFourUptoSaid : Prop := heapFourUptoRow.holds Try.pinned (OpenSpec.upto heapFourSpec)

/-- 'tarpaulinlaw12.ExpireActs', WHERE WHAT IT READS IS OF BULK AT MOST 1048576: true; the input reads as it did. -/
def expireActsUptoRow : OpenClaim := { program := "ytgjgopcomgclkaa", sum := "ad6ecf04ced2a64a909da2b6ec7dc641cc28a0a08aaf2f97a5a48dfcb1ba59ef", func := "tarpaulin/tarpaulinlaw12.ExpireActs", spec := "expireActs", apart := false, narrowed := true }
def ExpireActsUptoSaid : Prop := expireActsUptoRow.holds Try.pinned (OpenSpec.upto expireActsSpec)

/-- 'tarpaulinlaw12.ExpireOnce', WHERE WHAT IT READS IS OF BULK AT MOST 1048576: true; the input reads as it did. -/
def expireOnceUptoRow : OpenClaim := { program := "ytgjgopcomgclkaa", sum := "ad6ecf04ced2a64a909da2b6ec7dc641cc28a0a08aaf2f97a5a48dfcb1ba59ef", func := "tarpaulin/tarpaulinlaw12.ExpireOnce", spec := "expireOnce", apart := false, narrowed := true }
def ExpireOnceUptoSaid : Prop := expireOnceUptoRow.holds Try.pinned (OpenSpec.upto expireOnceSpec)

/-- 'tarpaulinlaw12.ExpireRows', WHERE WHAT IT READS IS OF BULK AT MOST 1048576: true; the input reads as it did. -/
def expireRowsUptoRow : OpenClaim := { program := "ytgjgopcomgclkaa", sum := "ad6ecf04ced2a64a909da2b6ec7dc641cc28a0a08aaf2f97a5a48dfcb1ba59ef", func := "tarpaulin/tarpaulinlaw12.ExpireRows", spec := "expireRows", apart := false, narrowed := true }
def ExpireRowsUptoSaid : Prop := expireRowsUptoRow.holds Try.pinned (OpenSpec.upto expireRowsSpec)

/-- 'tarpaulinlaw12.ExpireAnew', WHERE WHAT IT READS IS OF BULK AT MOST 1048576: true; the input reads as it did. -/
def expireAnewUptoRow : OpenClaim := { program := "ytgjgopcomgclkaa", sum := "ad6ecf04ced2a64a909da2b6ec7dc641cc28a0a08aaf2f97a5a48dfcb1ba59ef", func := "tarpaulin/tarpaulinlaw12.ExpireAnew", spec := "expireAnew", apart := false, narrowed := true }
def ExpireAnewUptoSaid : Prop := expireAnewUptoRow.holds Try.pinned (OpenSpec.upto expireAnewSpec)

/-- 'tarpaulinlaw12.ExpireNever', WHERE WHAT IT READS IS OF BULK AT MOST 1048576: true; the input reads as it did. -/
def expireNeverUptoRow : OpenClaim := { program := "ytgjgopcomgclkaa", sum := "ad6ecf04ced2a64a909da2b6ec7dc641cc28a0a08aaf2f97a5a48dfcb1ba59ef", func := "tarpaulin/tarpaulinlaw12.ExpireNever", spec := "expireNever", apart := false, narrowed := true }
def ExpireNeverUptoSaid : Prop := expireNeverUptoRow.holds Try.pinned (OpenSpec.upto expireNeverSpec)

/-- 'tarpaulinlaw12.ExpireHeld', WHERE WHAT IT READS IS OF BULK AT MOST 1048576: true; the input reads as it did. -/
def expireHeldUptoRow : OpenClaim := { program := "ytgjgopcomgclkaa", sum := "ad6ecf04ced2a64a909da2b6ec7dc641cc28a0a08aaf2f97a5a48dfcb1ba59ef", func := "tarpaulin/tarpaulinlaw12.ExpireHeld", spec := "expireHeld", apart := false, narrowed := true }
def ExpireHeldUptoSaid : Prop := expireHeldUptoRow.holds Try.pinned (OpenSpec.upto expireHeldSpec)

/-- 'tarpaulinlaw11.HeapActs', WHERE WHAT IT READS IS OF BULK AT MOST 1048576: true; the input reads as it did. -/
def heapActsUptoRow : OpenClaim := { program := "ytgjgopcomgclkaa", sum := "ad6ecf04ced2a64a909da2b6ec7dc641cc28a0a08aaf2f97a5a48dfcb1ba59ef", func := "tarpaulin/tarpaulinlaw11.HeapActs", spec := "heapActs", unfollowed := true, recurses := true, apart := false, narrowed := true }
def HeapActsUptoSaid : Prop := heapActsUptoRow.holds Try.pinned (OpenSpec.upto heapActsSpec)

/-- 'tarpaulinlaw11.HeapMoves', WHERE WHAT IT READS IS OF BULK AT MOST 1048576: true; the input reads as it did. -/
def heapMovesUptoRow : OpenClaim := { program := "ytgjgopcomgclkaa", sum := "ad6ecf04ced2a64a909da2b6ec7dc641cc28a0a08aaf2f97a5a48dfcb1ba59ef", func := "tarpaulin/tarpaulinlaw11.HeapMoves", spec := "heapMoves", unfollowed := true, recurses := true, apart := false, narrowed := true }
def HeapMovesUptoSaid : Prop := heapMovesUptoRow.holds Try.pinned (OpenSpec.upto heapMovesSpec)

/-- 'tarpaulinlaw11.HeapRemoves', WHERE WHAT IT READS IS OF BULK AT MOST 1048576: true; the input reads as it did. -/
def heapRemovesUptoRow : OpenClaim := { program := "ytgjgopcomgclkaa", sum := "ad6ecf04ced2a64a909da2b6ec7dc641cc28a0a08aaf2f97a5a48dfcb1ba59ef", func := "tarpaulin/tarpaulinlaw11.HeapRemoves", spec := "heapRemoves", unfollowed := true, recurses := true, apart := false, narrowed := true }
def HeapRemovesUptoSaid : Prop := heapRemovesUptoRow.holds Try.pinned (OpenSpec.upto heapRemovesSpec)

end Rows
end Go.Proofs.Ytgjgopcomgclkaa
