/-
  A struct of 3 ints that came in, opened (printed by wip/openst.py).
-/
import Derived.Test.YtgjgopcomgclkaaHl6
import Derived.ChangeArms
import Derived.ChangeShapes
namespace Go.Proofs.Ytgjgopcomgclkaa
open Go.RowKit Go.Deep Go.ChangeShapes Go.WideShapes
set_option linter.unusedVariables false
section
variable {H : Type} {enc0 : TypeId × Value → H} {w : World} {base : Nat} {spare : Nat → Bool} {held : Bool}
set_option maxRecDepth 100000 in
theorem open_hact {fuel : Nat} {cs : List Value} {x : DataW H × List MemPlace} (h : DataW.trod enc0 Try.prog w base spare held fuel 78 cs = some x) : ∃ d : HAct, cs = encH d := by
  obtain ⟨xs, n, _, rfl, hlen, hxl, hf⟩ := DataW.trod_struct Try.underlying78 h
  have hsz : Program.cellsOf Try.prog 78 = 3 := by kernel_rfl
  rw [hsz] at hlen
  have hxl' : xs.length = 3 := hxl
  match cs, hlen with
  | [c0, c1, c2], _ =>
    match xs, hxl' with
    | [x0, x1, x2], _ =>
      have ci : Program.cellsOf Try.prog 3 = 1 := by kernel_rfl
      have t0 : DataW.trod enc0 Try.prog w base spare held n 3 (List.take (Program.cellsOf Try.prog 3) [c0, c1, c2]) = some x0 := hf 0 _ rfl
      rw [ci] at t0
      have t1 : DataW.trod enc0 Try.prog w base spare held n 3 (List.take (Program.cellsOf Try.prog 3) [c1, c2]) = some x1 := hf 1 _ rfl
      rw [ci] at t1
      have t2 : DataW.trod enc0 Try.prog w base spare held n 3 (List.take (Program.cellsOf Try.prog 3) [c2]) = some x2 := hf 2 _ rfl
      rw [ci] at t2
      obtain ⟨z0, e0, _, _⟩ := DataW.trod_int Try.underlying3 t0
      obtain ⟨z1, e1, _, _⟩ := DataW.trod_int Try.underlying3 t1
      obtain ⟨z2, e2, _, _⟩ := DataW.trod_int Try.underlying3 t2
      simp only [List.take_succ_cons, List.take_zero, List.cons.injEq, and_true] at e0 e1 e2
      subst e0 e1 e2
      exact ⟨⟨z0, z1, z2⟩, rfl⟩
end
end Go.Proofs.Ytgjgopcomgclkaa
